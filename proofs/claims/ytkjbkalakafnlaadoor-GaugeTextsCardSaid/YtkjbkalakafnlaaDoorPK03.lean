/- Plain: the bits of a word, in order; a set's numbers, in order; sets joined; what another one hasn't. -/
import Derived.Test.YtkjbkalakafnlaaDoorPL03
import Derived.Lib.TrailingZeros
namespace Go.Proofs.YtkjbkalakafnlaaDoor
set_option linter.unusedVariables false
set_option linter.unusedSimpArgs false
/-! ### A word's bits -/
def bitsOf (w : Nat) : List Nat := (List.range 64).filter fun i => w.testBit i
theorem bitsOf_zero : bitsOf 0 = [] := by simp [bitsOf]
theorem mem_bitsOf {w i : Nat} : i ∈ bitsOf w ↔ i < 64 ∧ w.testBit i = true := by simp [bitsOf]
theorem testBit_low (k m j : Nat) : (2 ^ k * (2 * m + 1)).testBit j = if j < k then false else if j = k then true else m.testBit (j - k - 1) := by
  rw [Nat.mul_comm, Nat.testBit_mul_two_pow]
  by_cases h : j < k
  · rw [if_pos h]
    have : decide (k ≤ j) = false := by simp; omega
    rw [this]; rfl
  · rw [if_neg h]
    have : decide (k ≤ j) = true := by simp; omega
    rw [this, Bool.true_and]
    by_cases e : j = k
    · subst e; simp
    · rw [if_neg e]
      obtain ⟨d, hd⟩ : ∃ d, j - k = d + 1 := ⟨j - k - 1, by omega⟩
      rw [hd, Nat.testBit_succ]
      have : (2 * m + 1) / 2 = m := by omega
      rw [this]
      congr 1
/-- The lowest bit is taken out. -/
theorem low_out (k m : Nat) : (2 ^ k * (2 * m + 1)) &&& (2 ^ k * (2 * m + 1) - 1) = 2 ^ k * (2 * m) := by
  refine Nat.eq_of_testBit_eq fun j => ?_
  have hp := Nat.two_pow_pos k
  have e : 2 ^ k * (2 * m + 1) - 1 = 2 ^ k * (2 * m) + (2 ^ k - 1) := by
    rw [Nat.mul_add, Nat.mul_one]; omega
  rw [Nat.testBit_and, testBit_low, e, Nat.testBit_two_pow_mul_add _ (by omega), Nat.mul_comm (2 ^ k) (2 * m), Nat.testBit_mul_two_pow]
  by_cases h : j < k
  · rw [if_pos h]
    have : decide (k ≤ j) = false := by simp; omega
    rw [this]; simp
  · rw [if_neg h, if_neg h]
    have : decide (k ≤ j) = true := by simp; omega
    rw [this, Bool.true_and]
    by_cases e : j = k
    · subst e; simp
    · rw [if_neg e]
      obtain ⟨d, hd⟩ : ∃ d, j - k = d + 1 := ⟨j - k - 1, by omega⟩
      rw [hd, Nat.testBit_succ]
      have e2 : (2 * m) / 2 = m := by omega
      rw [e2, show d + 1 - 1 = d from rfl]
      simp
theorem filter_eq_cons {p q : Nat → Bool} : ∀ {l : List Nat} {k : Nat}, l.Pairwise (· < ·) → k ∈ l → p k = true → (∀ j, j < k → p j = false) → (∀ j, q j = (p j && decide (j ≠ k))) → l.filter p = k :: l.filter q
  | [], k, _, hk, _, _, _ => by cases hk
  | a :: l, k, hs, hk, h1, h2, h3 => by
    rcases List.mem_cons.1 hk with e | hk
    · subst e
      have : l.filter p = l.filter q := List.filter_congr fun x hx => by
        have := List.rel_of_pairwise_cons hs hx
        rw [h3]
        have : decide (x ≠ k) = true := by simp; omega
        rw [this, Bool.and_true]
      have hq : q k = false := by rw [h3]; simp
      rw [List.filter_cons_of_pos h1, List.filter_cons_of_neg (by rw [hq]; simp), this]
    · have hlt := List.rel_of_pairwise_cons hs hk
      have hp := h2 a hlt
      have hq : q a = false := by rw [h3, hp]; rfl
      rw [List.filter_cons_of_neg (by rw [hp]; simp), List.filter_cons_of_neg (by rw [hq]; simp)]
      exact filter_eq_cons (List.Pairwise.of_cons hs) hk h1 h2 h3
theorem bitsOf_step {w : Nat} (h0 : w ≠ 0) (h1 : w < 18446744073709551616) : bitsOf w = Lib.ctz 64 w :: bitsOf (w &&& (w - 1)) ∧ Lib.ctz 64 w < 64 ∧ w &&& (w - 1) < w := by
  obtain ⟨m, hm, hk⟩ := Lib.ctzFrom_spec 64 w (by omega) h1
  have hc : Lib.ctz 64 w = Lib.ctzFrom 64 w := by unfold Lib.ctz; rw [if_neg h0]
  rw [hc]
  generalize Lib.ctzFrom 64 w = k at hm hk
  have hlt : w &&& (w - 1) < w := by rw [hm, low_out, Nat.mul_add]; have := Nat.two_pow_pos k; omega
  refine ⟨?_, hk, hlt⟩
  unfold bitsOf
  refine filter_eq_cons (List.pairwise_lt_range) (by simpa using hk) ?_ ?_ ?_
  · rw [hm, testBit_low]; simp
  · intro j hj; rw [hm, testBit_low, if_pos hj]
  · intro j
    rw [hm, low_out, testBit_low, Nat.mul_comm (2 ^ k) (2 * m), Nat.testBit_mul_two_pow]
    by_cases h : j < k
    · rw [if_pos h]
      have : decide (k ≤ j) = false := by simp; omega
      rw [this]; rfl
    · rw [if_neg h]
      have : decide (k ≤ j) = true := by simp; omega
      rw [this, Bool.true_and]
      by_cases e : j = k
      · subst e; simp
      · rw [if_neg e]
        obtain ⟨d, hd⟩ : ∃ d, j - k = d + 1 := ⟨j - k - 1, by omega⟩
        rw [hd, Nat.testBit_succ]
        have e2 : (2 * m) / 2 = m := by omega
        have e4 : decide (j ≠ k) = true := by simp [e]
        rw [e2, e4, Bool.and_true, show d + 1 - 1 = d from rfl]
/-! ### A set's numbers -/
def numsOf (b : Blk) : List Int := (bitsOf b.w).map fun (i : Nat) => 64 * b.a + (i : Int)
def numsB (bs : List Blk) : List Int := bs.flatMap numsOf
theorem numsB_snoc (xs : List Blk) (x : Blk) : numsB (xs ++ [x]) = numsB xs ++ numsOf x := by simp [numsB]
theorem mem_numsB {bs : List Blk} (h : WFB bs) {x : Int} : x ∈ numsB bs ↔ 0 ≤ x ∧ memB bs x.toNat = true := by
  unfold numsB
  rw [List.mem_flatMap, memB_iff]
  constructor
  · rintro ⟨b, hb, hx⟩
    obtain ⟨i, hi, rfl⟩ := List.mem_map.1 hx
    have hi := mem_bitsOf.1 hi
    have hr := h.rng b hb
    have e : (64 * b.a + (i : Int)).toNat = 64 * b.a.toNat + i := by omega
    have hn := num_div b.a hr.1 i hi.1
    refine ⟨by omega, b, hb, ?_, ?_⟩
    · rw [e]; exact hn.1.symm
    · rw [e, hn.2]; exact hi.2
  · rintro ⟨h0, b, hb, e1, e2⟩
    refine ⟨b, hb, List.mem_map.2 ⟨x.toNat % 64, mem_bitsOf.2 ⟨Nat.mod_lt _ (by omega), e2⟩, by omega⟩⟩
theorem numsOf_up (b : Blk) : (numsOf b).Pairwise (· < ·) := by
  unfold numsOf bitsOf
  refine List.Pairwise.map _ (fun a c h => ?_) ((List.pairwise_lt_range (n := 64)).filter _)
  show 64 * b.a + (a : Int) < 64 * b.a + (c : Int)
  omega
theorem numsOf_rng {b : Blk} {x : Int} (h : x ∈ numsOf b) : 64 * b.a ≤ x ∧ x < 64 * b.a + 64 := by
  obtain ⟨i, hi, rfl⟩ := List.mem_map.1 h
  have := (mem_bitsOf.1 hi).1
  omega
theorem up_tail {z : Blk} {zs : List Blk} (hz : ∀ i j, i < j → j < (z :: zs).length → (z :: zs)[i]!.a < (z :: zs)[j]!.a) : (∀ b ∈ zs, z.a < b.a) ∧ ∀ i j, i < j → j < zs.length → zs[i]!.a < zs[j]!.a := by
  refine ⟨fun b hb => ?_, fun i j hij hj => by simpa using hz (i + 1) (j + 1) (by omega) (by simpa using hj)⟩
  obtain ⟨j, hj, rfl⟩ := get_of_mem hb
  simpa using hz 0 (j + 1) (by omega) (by simpa using hj)
theorem numsB_up : ∀ {bs : List Blk}, (∀ i j, i < j → j < bs.length → bs[i]!.a < bs[j]!.a) → (numsB bs).Pairwise (· < ·)
  | [], _ => List.Pairwise.nil
  | b :: bs, h => by
    obtain ⟨h1, h2⟩ := up_tail h
    show (numsOf b ++ numsB bs).Pairwise (· < ·)
    rw [List.pairwise_append]
    refine ⟨numsOf_up b, numsB_up h2, fun x hx y hy => ?_⟩
    obtain ⟨c, hc, hy⟩ := List.mem_flatMap.1 hy
    have := h1 c hc
    have := numsOf_rng hx
    have := numsOf_rng hy
    omega
theorem bitsOf_len (w : Nat) : (bitsOf w).length ≤ 64 := by
  have := List.length_filter_le (fun i => w.testBit i) (List.range 64)
  simpa [bitsOf] using this
theorem numsB_len : ∀ bs : List Blk, (numsB bs).length ≤ 64 * bs.length
  | [] => by simp [numsB]
  | b :: bs => by
    have h1 := numsB_len bs
    have h2 := bitsOf_len b.w
    have e : (numsB (b :: bs)).length = (bitsOf b.w).length + (numsB bs).length := by simp [numsB, numsOf]
    simp only [List.length_cons]
    omega
/-! ### Joined -/
structure JInv (s t : List Blk) (i k : Nat) (out : List Blk) (more : Bool) : Prop where
  wf : WFB out
  hi : i ≤ s.length
  hk : k ≤ t.length
  mem : ∀ n, memB out n = (memB (s.take i) n || memB (t.take k) n)
  lo : ∀ j, j < out.length → (∀ p, i ≤ p → p < s.length → out[j]!.a < s[p]!.a) ∧ (∀ p, k ≤ p → p < t.length → out[j]!.a < t[p]!.a)
  len : out.length ≤ i + k
  more_ : more = !decide (out = s.take i)
  st : ∀ j, j < i → ∀ p, k ≤ p → p < t.length → s[j]!.a < t[p]!.a
theorem JInv.start (s t : List Blk) : JInv s t 0 0 [] false := ⟨WFB.nil, Nat.zero_le _, Nat.zero_le _, fun n => rfl, fun j h => by simp at h, by simp, by simp, fun j h => by omega⟩
theorem take_nextB {bs : List Blk} {i : Nat} (h : i < bs.length) : bs.take (i + 1) = bs.take i ++ [bs[i]!] := by
  rw [getElem!_pos bs i h]; simp
theorem app_one_eq {xs ys : List Blk} {x y : Blk} : xs ++ [x] = ys ++ [y] ↔ xs = ys ∧ x = y := by
  constructor
  · intro h
    have := List.append_inj' h rfl
    exact ⟨this.1, by simpa using this.2⟩
  · rintro ⟨rfl, rfl⟩; rfl
section
variable {s t out : List Blk} {i k : Nat} {more : Bool}
theorem JInv.left (hs : WFB s) (ht : WFB t) (h : JInv s t i k out more) (hi : i < s.length) (hk : k = t.length ∨ k < t.length ∧ s[i]!.a < t[k]!.a) : JInv s t (i + 1) k (out ++ [s[i]!]) more := by
  have hlt : ∀ p, k ≤ p → p < t.length → s[i]!.a < t[p]!.a := fun p h1 h2 => by
    rcases hk with e | ⟨h3, h4⟩
    · omega
    · rcases Nat.lt_or_ge k p with h5 | h5
      · have := ht.up k p h5 h2; omega
      · have : p = k := by omega
        subst this; exact h4
  refine ⟨h.wf.snoc (fun j hj => (h.lo j hj).1 i (Nat.le_refl _) hi) (hs.rng _ (mem_getB hi)), hi, h.hk, fun n => ?_, fun j hj => ?_, by have := h.len; simp; omega, ?_, fun j hj => ?_⟩
  · rw [memB_app, h.mem, take_nextB hi, memB_app]
    cases memB (s.take i) n <;> cases memB (t.take k) n <;> simp
  · have hj' : j < out.length + 1 := by simpa using hj
    rw [snoc_get _ _ hj']
    split
    · exact ⟨fun p h1 h2 => (h.lo j (by assumption)).1 p (by omega) h2, (h.lo j (by assumption)).2⟩
    · exact ⟨fun p h1 h2 => hs.up i p (by omega) h2, hlt⟩
  · rw [h.more_, take_nextB hi]
    congr 1
    rw [decide_eq_decide, app_one_eq]
    simp
  · rcases Nat.lt_or_ge j i with h1 | h1
    · exact h.st j h1
    · have : j = i := by omega
      subst this; exact hlt
theorem JInv.right (hs : WFB s) (ht : WFB t) (h : JInv s t i k out more) (hk : k < t.length) (hi : i = s.length ∨ i < s.length ∧ t[k]!.a < s[i]!.a) : JInv s t i (k + 1) (out ++ [t[k]!]) true := by
  have hlt : ∀ p, i ≤ p → p < s.length → t[k]!.a < s[p]!.a := fun p h1 h2 => by
    rcases hi with e | ⟨h3, h4⟩
    · omega
    · rcases Nat.lt_or_ge i p with h5 | h5
      · have := hs.up i p h5 h2; omega
      · have : p = i := by omega
        subst this; exact h4
  refine ⟨h.wf.snoc (fun j hj => (h.lo j hj).2 k (Nat.le_refl _) hk) (ht.rng _ (mem_getB hk)), h.hi, hk, fun n => ?_, fun j hj => ?_, by have := h.len; simp; omega, ?_, fun j hj p h1 h2 => h.st j hj p (by omega) h2⟩
  · rw [memB_app, h.mem, take_nextB hk, memB_app]
    cases memB (s.take i) n <;> cases memB (t.take k) n <;> simp
  · have hj' : j < out.length + 1 := by simpa using hj
    rw [snoc_get _ _ hj']
    split
    · exact ⟨(h.lo j (by assumption)).1, fun p h1 h2 => (h.lo j (by assumption)).2 p (by omega) h2⟩
    · exact ⟨hlt, fun p h1 h2 => ht.up k p (by omega) h2⟩
  · have hne : out ++ [t[k]!] ≠ s.take i := by
      intro e
      have hm : t[k]! ∈ s.take i := by rw [← e]; simp
      obtain ⟨j, hj, ej⟩ := List.getElem_of_mem hm
      have hj' : j < i := by simp at hj; omega
      have := h.st j hj' k (Nat.le_refl _) hk
      rw [List.getElem_take] at ej
      rw [getElem!_pos s j (by have := h.hi; omega), ej] at this
      omega
    rw [decide_eq_false hne]; rfl
theorem JInv.both (hs : WFB s) (ht : WFB t) (h : JInv s t i k out more) (hi : i < s.length) (hk : k < t.length) (e : s[i]!.a = t[k]!.a) :
    JInv s t (i + 1) (k + 1) (out ++ [⟨s[i]!.a, s[i]!.w ||| t[k]!.w⟩]) (more || decide (s[i]!.w ||| t[k]!.w ≠ s[i]!.w)) := by
  have hr := hs.rng _ (mem_getB hi)
  have hr2 := ht.rng _ (mem_getB hk)
  have h1 : s[i]!.w ||| t[k]!.w < 2 ^ 64 := Nat.or_lt_two_pow hr.2.2.2 hr2.2.2.2
  have h2 : s[i]!.w ≤ s[i]!.w ||| t[k]!.w := Nat.left_le_or
  refine ⟨h.wf.snoc (fun j hj => (h.lo j hj).1 i (Nat.le_refl _) hi) ⟨hr.1, hr.2.1, by show 0 < s[i]!.w ||| _; omega, h1⟩, hi, hk, fun n => ?_, fun j hj => ?_, by have := h.len; simp; omega, ?_, fun j hj p hp1 hp2 => ?_⟩
  · rw [memB_app, h.mem, take_nextB hi, take_nextB hk, memB_app, memB_app, memB_one, memB_one, memB_one]
    show (_ || (decide (s[i]!.a = _) && (s[i]!.w ||| t[k]!.w).testBit _)) = _
    rw [← e, Nat.testBit_or]
    cases memB (s.take i) n <;> cases memB (t.take k) n <;> cases decide (s[i]!.a = ((n / 64 : Nat) : Int)) <;> simp
  · have hj' : j < out.length + 1 := by simpa using hj
    rw [snoc_get _ _ hj']
    split
    · exact ⟨fun p h1 h2 => (h.lo j (by assumption)).1 p (by omega) h2, fun p h1 h2 => (h.lo j (by assumption)).2 p (by omega) h2⟩
    · exact ⟨fun p h1 h2 => hs.up i p (by omega) h2, fun p h1 h2 => by show s[i]!.a < _; rw [e]; exact ht.up k p (by omega) h2⟩
  · rw [h.more_, take_nextB hi]
    have : decide (out ++ [(⟨s[i]!.a, s[i]!.w ||| t[k]!.w⟩ : Blk)] = s.take i ++ [s[i]!]) = (decide (out = s.take i) && decide (s[i]!.w ||| t[k]!.w = s[i]!.w)) := by
      rw [← Bool.decide_and, decide_eq_decide, app_one_eq]
      refine and_congr Iff.rfl ⟨fun q => congrArg Blk.w q, fun q => ?_⟩
      rw [q]
    rw [this]
    cases decide (out = s.take i) <;> simp
  · rcases Nat.lt_or_ge j i with h1 | h1
    · exact h.st j h1 p (by omega) hp2
    · have : j = i := by omega
      subst this
      rw [e]
      exact ht.up k p (by omega) hp2
theorem JInv.done (h : JInv s t s.length t.length out more) : WFB out ∧ (∀ n, memB out n = (memB s n || memB t n)) ∧ more = !decide (out = s) ∧ out.length ≤ s.length + t.length := by
  refine ⟨h.wf, fun n => ?_, ?_, h.len⟩
  · rw [h.mem, List.take_length, List.take_length]
  · rw [h.more_, List.take_length]
end
/-! ### What another one hasn't -/
structure LInv (s t : List Blk) (i : Nat) (out : List Blk) : Prop where
  wf : WFB out
  mem : ∀ n, memB out n = (memB (s.take i) n && !memB t n)
  lo : ∀ j, j < out.length → ∀ p, i ≤ p → p < s.length → out[j]!.a < s[p]!.a
  len : out.length ≤ i
theorem LInv.start (s t : List Blk) : LInv s t 0 [] := ⟨WFB.nil, fun n => by simp [memB_nil], fun j h => by simp at h, by simp⟩
/-- v: what is left of the block. -/
theorem LInv.step {s t out : List Blk} {i v : Nat} (hs : WFB s) (h : LInv s t i out) (hi : i < s.length) (hv : v < 18446744073709551616)
    (hb : ∀ n, s[i]!.a = ((n / 64 : Nat) : Int) → v.testBit (n % 64) = (s[i]!.w.testBit (n % 64) && !memB t n)) : LInv s t (i + 1) (if v = 0 then out else out ++ [⟨s[i]!.a, v⟩]) := by
  have hr := hs.rng _ (mem_getB hi)
  have key : ∀ n, memB [(⟨s[i]!.a, v⟩ : Blk)] n = (memB [s[i]!] n && !memB t n) := fun n => by
    rw [memB_one, memB_one]
    by_cases e : s[i]!.a = ((n / 64 : Nat) : Int)
    · rw [hb n e]
      cases s[i]!.w.testBit (n % 64) <;> simp [e]
    · rw [decide_eq_false e]; rfl
  have hm : ∀ n, (memB out n || memB [(⟨s[i]!.a, v⟩ : Blk)] n) = (memB (s.take (i + 1)) n && !memB t n) := fun n => by
    rw [h.mem, key, take_nextB hi, memB_app]
    cases memB (s.take i) n <;> cases memB t n <;> simp
  by_cases h0 : v = 0
  · rw [if_pos h0]
    subst h0
    refine ⟨h.wf, fun n => ?_, fun j hj p h1 h2 => h.lo j hj p (by omega) h2, by have := h.len; omega⟩
    rw [← hm, memB_one]
    simp
  · rw [if_neg h0]
    refine ⟨h.wf.snoc (fun j hj => h.lo j hj i (Nat.le_refl _) hi) ⟨hr.1, hr.2.1, by show 0 < v; omega, hv⟩, fun n => ?_, fun j hj p h1 h2 => ?_, by have := h.len; simp; omega⟩
    · rw [memB_app]; exact hm n
    · have hj' : j < out.length + 1 := by simpa using hj
      rw [snoc_get _ _ hj']
      split
      · exact h.lo j (by assumption) p (by omega) h2
      · exact hs.up i p (by omega) h2
theorem LInv.done {s t out : List Blk} (h : LInv s t s.length out) : WFB out ∧ (∀ n, memB out n = (memB s n && !memB t n)) ∧ out.length ≤ s.length := by
  refine ⟨h.wf, fun n => ?_, h.len⟩
  rw [h.mem, List.take_length]
end Go.Proofs.YtkjbkalakafnlaaDoor
