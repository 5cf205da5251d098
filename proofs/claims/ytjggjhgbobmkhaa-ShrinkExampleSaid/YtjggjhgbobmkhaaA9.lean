/- Several texts of one claim in one file: PL03 PK03 PO03 EP EX4 QR20. -/
import Derived.Lib.TrailingZeros
import Derived.Test.YtjggjhgbobmkhaaA8
import Derived.Test.YtjggjhgbobmkhaaA5
import Derived.Lib.Overlaps
/- Plain: sets of numbers in blocks of 64: what is in them; how they come to be one list; joined, made less, told. -/
namespace Go.Proofs.Ytjggjhgbobmkhaa
set_option linter.unusedVariables false
set_option linter.unusedSimpArgs false
structure Blk where
  a : Int
  w : Nat
deriving Inhabited, DecidableEq
/-- Is a number in it? -/
def memB (bs : List Blk) (n : Nat) : Bool := bs.any fun b => decide (b.a = ((n / 64 : Nat) : Int)) && b.w.testBit (n % 64)
structure WFB (bs : List Blk) : Prop where
  up : ∀ i j, i < j → j < bs.length → bs[i]!.a < bs[j]!.a
  rng : ∀ b ∈ bs, 0 ≤ b.a ∧ b.a < 144115188075855872 ∧ 0 < b.w ∧ b.w < 18446744073709551616
theorem WFB.nil : WFB [] := ⟨fun i j _ h => by simp at h, by simp⟩
theorem mem_getB {bs : List Blk} {i : Nat} (h : i < bs.length) : bs[i]! ∈ bs := by rw [getElem!_pos bs i h]; exact List.getElem_mem h
theorem get_of_mem {bs : List Blk} {b : Blk} (h : b ∈ bs) : ∃ i, i < bs.length ∧ bs[i]! = b := by
  obtain ⟨i, hi, e⟩ := List.getElem_of_mem h
  exact ⟨i, hi, by rw [getElem!_pos bs i hi]; exact e⟩
theorem memB_iff {bs : List Blk} {n : Nat} : memB bs n = true ↔ ∃ b ∈ bs, b.a = ((n / 64 : Nat) : Int) ∧ b.w.testBit (n % 64) = true := by
  simp [memB, List.any_eq_true]
theorem memB_nil (n : Nat) : memB [] n = false := rfl
theorem memB_app (xs ys : List Blk) (n : Nat) : memB (xs ++ ys) n = (memB xs n || memB ys n) := by simp [memB]
theorem memB_one (b : Blk) (n : Nat) : memB [b] n = (decide (b.a = ((n / 64 : Nat) : Int)) && b.w.testBit (n % 64)) := by simp [memB]
theorem WFB.inj {bs : List Blk} (h : WFB bs) {i j : Nat} (hi : i < bs.length) (hj : j < bs.length) (e : bs[i]!.a = bs[j]!.a) : i = j := by
  rcases Nat.lt_trichotomy i j with h1 | h1 | h1
  · have := h.up i j h1 hj; omega
  · exact h1
  · have := h.up j i h1 hi; omega
/-- The block at a place tells of its numbers. -/
theorem WFB.at_ {bs : List Blk} (h : WFB bs) {i n : Nat} (hi : i < bs.length) (e : bs[i]!.a = ((n / 64 : Nat) : Int)) : memB bs n = bs[i]!.w.testBit (n % 64) := by
  rw [Bool.eq_iff_iff, memB_iff]
  refine ⟨fun ⟨b, hb, e2, hw⟩ => ?_, fun hw => ⟨_, mem_getB hi, e, hw⟩⟩
  obtain ⟨j, hj, rfl⟩ := get_of_mem hb
  rw [h.inj hi hj (e.trans e2.symm)]
  exact hw
theorem memB_none {bs : List Blk} {n : Nat} (h : ∀ i, i < bs.length → bs[i]!.a ≠ ((n / 64 : Nat) : Int)) : memB bs n = false := by
  rw [Bool.eq_false_iff]
  intro hm
  obtain ⟨b, hb, e, _⟩ := memB_iff.1 hm
  obtain ⟨i, hi, rfl⟩ := get_of_mem hb
  exact h i hi e
theorem bit_some {w : Nat} (h0 : 0 < w) (h1 : w < 18446744073709551616) : ∃ i, i < 64 ∧ w.testBit i = true := by
  obtain ⟨i, hi⟩ := Nat.exists_testBit_of_ne_zero (by omega : w ≠ 0)
  refine ⟨i, ?_, hi⟩
  rcases Nat.lt_or_ge i 64 with h | h
  · exact h
  · have : w < 2 ^ i := Nat.lt_of_lt_of_le h1 (Nat.pow_le_pow_right (n := 2) (by omega) h)
    rw [Nat.testBit_lt_two_pow this] at hi
    cases hi
theorem bit_hi {w : Nat} (h1 : w < 18446744073709551616) {i : Nat} (h : 64 ≤ i) : w.testBit i = false :=
  Nat.testBit_lt_two_pow (Nat.lt_of_lt_of_le h1 (Nat.pow_le_pow_right (n := 2) (by omega) h))
/-- Lists of one order that have the same blocks are one. -/
theorem sorted_eq : ∀ {xs ys : List Blk}, (∀ i j, i < j → j < xs.length → xs[i]!.a < xs[j]!.a) → (∀ i j, i < j → j < ys.length → ys[i]!.a < ys[j]!.a) → (∀ b, b ∈ xs ↔ b ∈ ys) → xs = ys
  | [], [], _, _, _ => rfl
  | [], y :: ys, _, _, h => by have := (h y).2 (by simp); cases this
  | x :: xs, [], _, _, h => by have := (h x).1 (by simp); cases this
  | x :: xs, y :: ys, h1, h2, h => by
    have tail : ∀ {z : Blk} {zs : List Blk}, (∀ i j, i < j → j < (z :: zs).length → (z :: zs)[i]!.a < (z :: zs)[j]!.a) → ∀ b ∈ zs, z.a < b.a := fun {z zs} hz b hb => by
      obtain ⟨j, hj, rfl⟩ := get_of_mem hb
      have := hz 0 (j + 1) (by omega) (by simpa using hj)
      simpa using this
    have e : x = y := by
      have m1 := (h x).1 (by simp)
      have m2 := (h y).2 (by simp)
      rcases List.mem_cons.1 m1 with e | m1
      · exact e
      · rcases List.mem_cons.1 m2 with e | m2
        · exact e.symm
        · have := tail h2 x m1; have := tail h1 y m2; omega
    subst e
    have e2 : xs = ys := by
      refine sorted_eq (fun i j hij hj => by simpa using h1 (i + 1) (j + 1) (by omega) (by simpa using hj)) (fun i j hij hj => by simpa using h2 (i + 1) (j + 1) (by omega) (by simpa using hj)) fun b => ⟨fun hb => ?_, fun hb => ?_⟩
      · rcases List.mem_cons.1 ((h b).1 (by simp [hb])) with e | m
        · subst e; have := tail h1 b hb; omega
        · exact m
      · rcases List.mem_cons.1 ((h b).2 (by simp [hb])) with e | m
        · subst e; have := tail h2 b hb; omega
        · exact m
    rw [e2]
theorem num_div (a : Int) (h : 0 ≤ a) (i : Nat) (hi : i < 64) : (((64 * a.toNat + i) / 64 : Nat) : Int) = a ∧ (64 * a.toNat + i) % 64 = i := by omega
/-- Sets with the same numbers are one list. -/
theorem canonB {xs ys : List Blk} (hx : WFB xs) (hy : WFB ys) (h : ∀ n, memB xs n = memB ys n) : xs = ys := by
  have half : ∀ {xs ys : List Blk}, WFB xs → WFB ys → (∀ n, memB xs n = memB ys n) → ∀ b ∈ xs, b ∈ ys := fun {xs ys} hx hy h b hb => by
    have hr := hx.rng b hb
    obtain ⟨i, hi, hw⟩ := bit_some hr.2.2.1 hr.2.2.2
    have hn := num_div b.a hr.1 i hi
    have hm : memB xs (64 * b.a.toNat + i) = true := memB_iff.2 ⟨b, hb, hn.1.symm, by rw [hn.2]; exact hw⟩
    rw [h] at hm
    obtain ⟨c, hc, e, _⟩ := memB_iff.1 hm
    rw [hn.1] at e
    have : b.w = c.w := by
      refine Nat.eq_of_testBit_eq fun k => ?_
      rcases Nat.lt_or_ge k 64 with hk | hk
      · have hn := num_div b.a hr.1 k hk
        obtain ⟨p, hp, ep⟩ := get_of_mem hb
        obtain ⟨q, hq, eq⟩ := get_of_mem hc
        have h1 := hx.at_ hp (n := 64 * b.a.toNat + k) (by rw [ep]; exact hn.1.symm)
        have h2 := hy.at_ hq (n := 64 * b.a.toNat + k) (by rw [eq, e]; exact hn.1.symm)
        rw [ep, hn.2] at h1
        rw [eq, hn.2] at h2
        rw [← h1, ← h2, h]
      · rw [bit_hi hr.2.2.2 hk, bit_hi (hy.rng c hc).2.2.2 hk]
    have : b = c := by cases b; cases c; simp_all
    rw [this]
    exact hc
  exact sorted_eq hx.up hy.up fun b => ⟨half hx hy h b, half hy hx (fun n => (h n).symm) b⟩
theorem snoc_get (xs : List Blk) (x : Blk) {j : Nat} (h : j < xs.length + 1) : (xs ++ [x])[j]! = if j < xs.length then xs[j]! else x := by
  rw [getElem!_pos (xs ++ [x]) j (by simpa using h), List.getElem_append]
  split
  · rename_i h1; rw [getElem!_pos xs j h1]
  · simp
/-- One more, behind all. -/
theorem WFB.snoc {xs : List Blk} {x : Blk} (h : WFB xs) (hx : ∀ i, i < xs.length → xs[i]!.a < x.a) (hr : 0 ≤ x.a ∧ x.a < 144115188075855872 ∧ 0 < x.w ∧ x.w < 18446744073709551616) : WFB (xs ++ [x]) := by
  refine ⟨fun i j hij hj => ?_, fun b hb => ?_⟩
  · have hj' : j < xs.length + 1 := by simpa using hj
    rw [snoc_get _ _ (by omega), snoc_get _ _ hj', if_pos (by omega)]
    split
    · exact h.up i j hij (by assumption)
    · exact hx i (by omega)
  · rcases List.mem_append.1 hb with hb | hb
    · exact h.rng b hb
    · rw [List.mem_singleton.1 hb]; exact hr
/-! ### One more number -/
theorem testBit_pow (k j : Nat) : (2 ^ k).testBit j = decide (k = j) := by rw [Nat.testBit_two_pow]
/-- Its block is there. -/
theorem add_there {bs : List Blk} (h : WFB bs) {i n : Nat} (hi : i < bs.length) (e : bs[i]!.a = ((n / 64 : Nat) : Int)) :
    WFB (bs.set i ⟨bs[i]!.a, bs[i]!.w ||| 2 ^ (n % 64)⟩) ∧ ∀ m, memB (bs.set i ⟨bs[i]!.a, bs[i]!.w ||| 2 ^ (n % 64)⟩) m = (memB bs m || decide (m = n)) := by
  have gs : ∀ j, j < bs.length → (bs.set i ⟨bs[i]!.a, bs[i]!.w ||| 2 ^ (n % 64)⟩)[j]! = if i = j then ⟨bs[i]!.a, bs[i]!.w ||| 2 ^ (n % 64)⟩ else bs[j]! := fun j hj => by
    rw [getElem!_pos _ j (by simpa using hj), List.getElem_set]
    split
    · rfl
    · rw [getElem!_pos bs j hj]
  have ga : ∀ j, j < bs.length → (bs.set i ⟨bs[i]!.a, bs[i]!.w ||| 2 ^ (n % 64)⟩)[j]!.a = bs[j]!.a := fun j hj => by
    rw [gs j hj]
    split
    · rename_i e; rw [e]
    · rfl
  have hw : WFB (bs.set i ⟨bs[i]!.a, bs[i]!.w ||| 2 ^ (n % 64)⟩) := by
    refine ⟨fun j k hjk hk => ?_, fun b hb => ?_⟩
    · have hk' : k < bs.length := by simpa using hk
      rw [ga j (by omega), ga k hk']
      exact h.up j k hjk hk'
    · obtain ⟨j, hj, rfl⟩ := get_of_mem hb
      have hj' : j < bs.length := by simpa using hj
      rw [gs j hj']
      split
      · have hr := h.rng _ (mem_getB hi)
        have h1 : bs[i]!.w ||| 2 ^ (n % 64) < 2 ^ 64 := Nat.or_lt_two_pow hr.2.2.2 (Nat.pow_lt_pow_right (by omega) (Nat.mod_lt _ (by omega)))
        have h2 : bs[i]!.w ≤ bs[i]!.w ||| 2 ^ (n % 64) := Nat.left_le_or
        exact ⟨hr.1, hr.2.1, by show 0 < bs[i]!.w ||| _; omega, h1⟩
      · exact h.rng _ (mem_getB hj')
  refine ⟨hw, fun m => ?_⟩
  by_cases hm : ((m / 64 : Nat) : Int) = ((n / 64 : Nat) : Int)
  · have hl : i < (bs.set i ⟨bs[i]!.a, bs[i]!.w ||| 2 ^ (n % 64)⟩).length := by simpa using hi
    rw [hw.at_ hl (n := m) (by rw [ga i hi, e, hm]), h.at_ hi (n := m) (by rw [e, hm]), gs i hi, if_pos rfl]
    show (bs[i]!.w ||| 2 ^ (n % 64)).testBit (m % 64) = _
    rw [Nat.testBit_or, testBit_pow]
    congr 1
    rw [decide_eq_decide]
    omega
  · have hd : decide (m = n) = false := by rw [decide_eq_false_iff_not]; intro e2; exact hm (by rw [e2])
    rw [hd, Bool.or_false, Bool.eq_iff_iff, memB_iff, memB_iff]
    constructor
    · rintro ⟨b, hb, e1, e2⟩
      obtain ⟨j, hj, rfl⟩ := get_of_mem hb
      have hj' : j < bs.length := by simpa using hj
      have hne : i ≠ j := fun q => by subst q; rw [ga i hi] at e1; exact hm (e1.symm.trans e)
      rw [gs j hj', if_neg hne] at e1 e2
      exact ⟨_, mem_getB hj', e1, e2⟩
    · rintro ⟨b, hb, e1, e2⟩
      obtain ⟨j, hj, rfl⟩ := get_of_mem hb
      have hne : i ≠ j := fun q => by subst q; exact hm (e1.symm.trans e)
      have := gs j hj
      rw [if_neg hne] at this
      exact ⟨_, by rw [← this]; exact mem_getB (by simpa using hj), e1, e2⟩
theorem insB_get (bs : List Blk) (i : Nat) (x : Blk) (hi : i ≤ bs.length) {j : Nat} (hj : j < bs.length + 1) : (bs.take i ++ x :: bs.drop i)[j]! = if j < i then bs[j]! else if j = i then x else bs[j - 1]! := by
  have hl : (bs.take i ++ x :: bs.drop i).length = bs.length + 1 := by simp; omega
  rw [getElem!_pos _ j (by rw [hl]; exact hj), List.getElem_append]
  by_cases h : j < i
  · rw [dif_pos (by simp; omega), if_pos h, getElem!_pos bs j (by omega)]
    simp
  · rw [dif_neg (by simp; omega), if_neg h]
    by_cases e : j = i
    · subst e
      simp [Nat.min_eq_left hi]
    · rw [if_neg e, getElem!_pos bs (j - 1) (by omega)]
      have : j - (bs.take i).length = (j - i - 1) + 1 := by simp; omega
      simp only [this, List.getElem_cons_succ, List.getElem_drop]
      congr 1
      omega
/-- It isn't there. -/
theorem add_new {bs : List Blk} (h : WFB bs) {i n : Nat} (hi : i ≤ bs.length) (hlo : ∀ j, j < i → bs[j]!.a < ((n / 64 : Nat) : Int)) (hhi : ∀ j, i ≤ j → j < bs.length → ((n / 64 : Nat) : Int) < bs[j]!.a) (hn : n < 9223372036854775808) :
    WFB (bs.take i ++ ⟨((n / 64 : Nat) : Int), 2 ^ (n % 64)⟩ :: bs.drop i) ∧ (∀ m, memB (bs.take i ++ ⟨((n / 64 : Nat) : Int), 2 ^ (n % 64)⟩ :: bs.drop i) m = (memB bs m || decide (m = n))) ∧ memB bs n = false := by
  have g := @insB_get bs i ⟨((n / 64 : Nat) : Int), 2 ^ (n % 64)⟩ hi
  have hl : (bs.take i ++ ⟨((n / 64 : Nat) : Int), 2 ^ (n % 64)⟩ :: bs.drop i).length = bs.length + 1 := by simp; omega
  refine ⟨⟨fun j k hjk hk => ?_, fun b hb => ?_⟩, fun m => ?_, memB_none fun j hj e => ?_⟩
  · rw [hl] at hk
    rw [@g j (by omega), @g k hk]
    by_cases h1 : k < i
    · rw [if_pos h1, if_pos (by omega)]
      exact h.up j k hjk (by omega)
    · rw [if_neg h1]
      by_cases h2 : k = i
      · rw [if_pos h2, if_pos (by omega)]
        exact hlo j (by omega)
      · rw [if_neg h2]
        by_cases h3 : j < i
        · rw [if_pos h3]
          exact h.up j (k - 1) (by omega) (by omega)
        · rw [if_neg h3]
          by_cases h4 : j = i
          · rw [if_pos h4]
            exact hhi (k - 1) (by omega) (by omega)
          · rw [if_neg h4]
            exact h.up (j - 1) (k - 1) (by omega) (by omega)
  · rcases List.mem_append.1 hb with hb | hb
    · exact h.rng b (List.mem_of_mem_take hb)
    · rcases List.mem_cons.1 hb with rfl | hb
      · have h2 : 2 ^ (n % 64) < 2 ^ 64 := Nat.pow_lt_pow_right (by omega) (Nat.mod_lt _ (by omega))
        exact ⟨by show (0 : Int) ≤ ((n / 64 : Nat) : Int); omega, by show ((n / 64 : Nat) : Int) < _; omega, Nat.two_pow_pos _, h2⟩
      · exact h.rng b (List.mem_of_mem_drop hb)
  · have e : memB bs m = (memB (bs.take i) m || memB (bs.drop i) m) := by rw [← memB_app, List.take_append_drop]
    have e2 : (⟨((n / 64 : Nat) : Int), 2 ^ (n % 64)⟩ : Blk) :: bs.drop i = [⟨((n / 64 : Nat) : Int), 2 ^ (n % 64)⟩] ++ bs.drop i := rfl
    rw [e2, memB_app, memB_app, memB_one, e]
    have e3 : (decide (((n / 64 : Nat) : Int) = ((m / 64 : Nat) : Int)) && (2 ^ (n % 64)).testBit (m % 64)) = decide (m = n) := by
      rw [testBit_pow, ← Bool.decide_and, decide_eq_decide]
      omega
    rw [e3]
    cases memB (bs.take i) m <;> cases memB (bs.drop i) m <;> simp
  · rcases Nat.lt_or_ge j i with h1 | h1
    · have := hlo j h1; omega
    · have := hhi j h1 hj; omega
end Go.Proofs.Ytjggjhgbobmkhaa

/- Plain: the bits of a word, in order; a set's numbers, in order; sets joined; what another one hasn't. -/
namespace Go.Proofs.Ytjggjhgbobmkhaa
set_option linter.unusedVariables false
set_option linter.unusedSimpArgs false
/-! ### A word's bits -/
def bitsOf (w : Nat) : List Nat := (List.range 64).filter fun i => w.testBit i
theorem mem_bitsOf {w i : Nat} : i ∈ bitsOf w ↔ i < 64 ∧ w.testBit i = true := by simp [bitsOf]
/-! ### A set's numbers -/
def numsOf (b : Blk) : List Int := (bitsOf b.w).map fun (i : Nat) => 64 * b.a + (i : Int)
def numsB (bs : List Blk) : List Int := bs.flatMap numsOf
theorem numsB_snoc (xs : List Blk) (x : Blk) : numsB (xs ++ [x]) = numsB xs ++ numsOf x := by simp [numsB]
theorem mem_numsB {bs : List Blk} (h : WFB bs) {x : Int} : x ∈ numsB bs ↔ 0 ≤ x ∧ memB bs x.toNat = true := by
  unfold numsB
  rw [List.mem_flatMap, memB_iff]
  constructor
  · rintro ⟨b, hb, hx⟩
    obtain ⟨i, hi, rfl⟩ := List.mem_map.1 hx
    have hi := mem_bitsOf.1 hi
    have hr := h.rng b hb
    have e : (64 * b.a + (i : Int)).toNat = 64 * b.a.toNat + i := by omega
    have hn := num_div b.a hr.1 i hi.1
    refine ⟨by omega, b, hb, ?_, ?_⟩
    · rw [e]; exact hn.1.symm
    · rw [e, hn.2]; exact hi.2
  · rintro ⟨h0, b, hb, e1, e2⟩
    refine ⟨b, hb, List.mem_map.2 ⟨x.toNat % 64, mem_bitsOf.2 ⟨Nat.mod_lt _ (by omega), e2⟩, by omega⟩⟩
theorem bitsOf_len (w : Nat) : (bitsOf w).length ≤ 64 := by
  have := List.length_filter_le (fun i => w.testBit i) (List.range 64)
  simpa [bitsOf] using this
theorem numsB_len : ∀ bs : List Blk, (numsB bs).length ≤ 64 * bs.length
  | [] => by simp [numsB]
  | b :: bs => by
    have h1 := numsB_len bs
    have h2 := bitsOf_len b.w
    have e : (numsB (b :: bs)).length = (bitsOf b.w).length + (numsB bs).length := by simp [numsB, numsOf]
    simp only [List.length_cons]
    omega
/-! ### Joined -/
structure JInv (s t : List Blk) (i k : Nat) (out : List Blk) (more : Bool) : Prop where
  wf : WFB out
  hi : i ≤ s.length
  hk : k ≤ t.length
  mem : ∀ n, memB out n = (memB (s.take i) n || memB (t.take k) n)
  lo : ∀ j, j < out.length → (∀ p, i ≤ p → p < s.length → out[j]!.a < s[p]!.a) ∧ (∀ p, k ≤ p → p < t.length → out[j]!.a < t[p]!.a)
  len : out.length ≤ i + k
  more_ : more = !decide (out = s.take i)
  st : ∀ j, j < i → ∀ p, k ≤ p → p < t.length → s[j]!.a < t[p]!.a
theorem JInv.start (s t : List Blk) : JInv s t 0 0 [] false := ⟨WFB.nil, Nat.zero_le _, Nat.zero_le _, fun n => rfl, fun j h => by simp at h, by simp, by simp, fun j h => by omega⟩
theorem take_nextB {bs : List Blk} {i : Nat} (h : i < bs.length) : bs.take (i + 1) = bs.take i ++ [bs[i]!] := by
  rw [getElem!_pos bs i h]; simp
theorem app_one_eq {xs ys : List Blk} {x y : Blk} : xs ++ [x] = ys ++ [y] ↔ xs = ys ∧ x = y := by
  constructor
  · intro h
    have := List.append_inj' h rfl
    exact ⟨this.1, by simpa using this.2⟩
  · rintro ⟨rfl, rfl⟩; rfl
section
variable {s t out : List Blk} {i k : Nat} {more : Bool}
theorem JInv.left (hs : WFB s) (ht : WFB t) (h : JInv s t i k out more) (hi : i < s.length) (hk : k = t.length ∨ k < t.length ∧ s[i]!.a < t[k]!.a) : JInv s t (i + 1) k (out ++ [s[i]!]) more := by
  have hlt : ∀ p, k ≤ p → p < t.length → s[i]!.a < t[p]!.a := fun p h1 h2 => by
    rcases hk with e | ⟨h3, h4⟩
    · omega
    · rcases Nat.lt_or_ge k p with h5 | h5
      · have := ht.up k p h5 h2; omega
      · have : p = k := by omega
        subst this; exact h4
  refine ⟨h.wf.snoc (fun j hj => (h.lo j hj).1 i (Nat.le_refl _) hi) (hs.rng _ (mem_getB hi)), hi, h.hk, fun n => ?_, fun j hj => ?_, by have := h.len; simp; omega, ?_, fun j hj => ?_⟩
  · rw [memB_app, h.mem, take_nextB hi, memB_app]
    cases memB (s.take i) n <;> cases memB (t.take k) n <;> simp
  · have hj' : j < out.length + 1 := by simpa using hj
    rw [snoc_get _ _ hj']
    split
    · exact ⟨fun p h1 h2 => (h.lo j (by assumption)).1 p (by omega) h2, (h.lo j (by assumption)).2⟩
    · exact ⟨fun p h1 h2 => hs.up i p (by omega) h2, hlt⟩
  · rw [h.more_, take_nextB hi]
    congr 1
    rw [decide_eq_decide, app_one_eq]
    simp
  · rcases Nat.lt_or_ge j i with h1 | h1
    · exact h.st j h1
    · have : j = i := by omega
      subst this; exact hlt
theorem JInv.right (hs : WFB s) (ht : WFB t) (h : JInv s t i k out more) (hk : k < t.length) (hi : i = s.length ∨ i < s.length ∧ t[k]!.a < s[i]!.a) : JInv s t i (k + 1) (out ++ [t[k]!]) true := by
  have hlt : ∀ p, i ≤ p → p < s.length → t[k]!.a < s[p]!.a := fun p h1 h2 => by
    rcases hi with e | ⟨h3, h4⟩
    · omega
    · rcases Nat.lt_or_ge i p with h5 | h5
      · have := hs.up i p h5 h2; omega
      · have : p = i := by omega
        subst this; exact h4
  refine ⟨h.wf.snoc (fun j hj => (h.lo j hj).2 k (Nat.le_refl _) hk) (ht.rng _ (mem_getB hk)), h.hi, hk, fun n => ?_, fun j hj => ?_, by have := h.len; simp; omega, ?_, fun j hj p h1 h2 => h.st j hj p (by omega) h2⟩
  · rw [memB_app, h.mem, take_nextB hk, memB_app]
    cases memB (s.take i) n <;> cases memB (t.take k) n <;> simp
  · have hj' : j < out.length + 1 := by simpa using hj
    rw [snoc_get _ _ hj']
    split
    · exact ⟨(h.lo j (by assumption)).1, fun p h1 h2 => (h.lo j (by assumption)).2 p (by omega) h2⟩
    · exact ⟨hlt, fun p h1 h2 => ht.up k p (by omega) h2⟩
  · have hne : out ++ [t[k]!] ≠ s.take i := by
      intro e
      have hm : t[k]! ∈ s.take i := by rw [← e]; simp
      obtain ⟨j, hj, ej⟩ := List.getElem_of_mem hm
      have hj' : j < i := by simp at hj; omega
      have := h.st j hj' k (Nat.le_refl _) hk
      rw [List.getElem_take] at ej
      rw [getElem!_pos s j (by have := h.hi; omega), ej] at this
      omega
    rw [decide_eq_false hne]; rfl
theorem JInv.both (hs : WFB s) (ht : WFB t) (h : JInv s t i k out more) (hi : i < s.length) (hk : k < t.length) (e : s[i]!.a = t[k]!.a) :
    JInv s t (i + 1) (k + 1) (out ++ [⟨s[i]!.a, s[i]!.w ||| t[k]!.w⟩]) (more || decide (s[i]!.w ||| t[k]!.w ≠ s[i]!.w)) := by
  have hr := hs.rng _ (mem_getB hi)
  have hr2 := ht.rng _ (mem_getB hk)
  have h1 : s[i]!.w ||| t[k]!.w < 2 ^ 64 := Nat.or_lt_two_pow hr.2.2.2 hr2.2.2.2
  have h2 : s[i]!.w ≤ s[i]!.w ||| t[k]!.w := Nat.left_le_or
  refine ⟨h.wf.snoc (fun j hj => (h.lo j hj).1 i (Nat.le_refl _) hi) ⟨hr.1, hr.2.1, by show 0 < s[i]!.w ||| _; omega, h1⟩, hi, hk, fun n => ?_, fun j hj => ?_, by have := h.len; simp; omega, ?_, fun j hj p hp1 hp2 => ?_⟩
  · rw [memB_app, h.mem, take_nextB hi, take_nextB hk, memB_app, memB_app, memB_one, memB_one, memB_one]
    show (_ || (decide (s[i]!.a = _) && (s[i]!.w ||| t[k]!.w).testBit _)) = _
    rw [← e, Nat.testBit_or]
    cases memB (s.take i) n <;> cases memB (t.take k) n <;> cases decide (s[i]!.a = ((n / 64 : Nat) : Int)) <;> simp
  · have hj' : j < out.length + 1 := by simpa using hj
    rw [snoc_get _ _ hj']
    split
    · exact ⟨fun p h1 h2 => (h.lo j (by assumption)).1 p (by omega) h2, fun p h1 h2 => (h.lo j (by assumption)).2 p (by omega) h2⟩
    · exact ⟨fun p h1 h2 => hs.up i p (by omega) h2, fun p h1 h2 => by show s[i]!.a < _; rw [e]; exact ht.up k p (by omega) h2⟩
  · rw [h.more_, take_nextB hi]
    have : decide (out ++ [(⟨s[i]!.a, s[i]!.w ||| t[k]!.w⟩ : Blk)] = s.take i ++ [s[i]!]) = (decide (out = s.take i) && decide (s[i]!.w ||| t[k]!.w = s[i]!.w)) := by
      rw [← Bool.decide_and, decide_eq_decide, app_one_eq]
      refine and_congr Iff.rfl ⟨fun q => congrArg Blk.w q, fun q => ?_⟩
      rw [q]
    rw [this]
    cases decide (out = s.take i) <;> simp
  · rcases Nat.lt_or_ge j i with h1 | h1
    · exact h.st j h1 p (by omega) hp2
    · have : j = i := by omega
      subst this
      rw [e]
      exact ht.up k p (by omega) hp2
theorem JInv.done (h : JInv s t s.length t.length out more) : WFB out ∧ (∀ n, memB out n = (memB s n || memB t n)) ∧ more = !decide (out = s) ∧ out.length ≤ s.length + t.length := by
  refine ⟨h.wf, fun n => ?_, ?_, h.len⟩
  · rw [h.mem, List.take_length, List.take_length]
  · rw [h.more_, List.take_length]
end
/-! ### What another one hasn't -/
structure LInv (s t : List Blk) (i : Nat) (out : List Blk) : Prop where
  wf : WFB out
  mem : ∀ n, memB out n = (memB (s.take i) n && !memB t n)
  lo : ∀ j, j < out.length → ∀ p, i ≤ p → p < s.length → out[j]!.a < s[p]!.a
  len : out.length ≤ i
theorem LInv.start (s t : List Blk) : LInv s t 0 [] := ⟨WFB.nil, fun n => by simp [memB_nil], fun j h => by simp at h, by simp⟩
/-- v: what is left of the block. -/
theorem LInv.step {s t out : List Blk} {i v : Nat} (hs : WFB s) (h : LInv s t i out) (hi : i < s.length) (hv : v < 18446744073709551616)
    (hb : ∀ n, s[i]!.a = ((n / 64 : Nat) : Int) → v.testBit (n % 64) = (s[i]!.w.testBit (n % 64) && !memB t n)) : LInv s t (i + 1) (if v = 0 then out else out ++ [⟨s[i]!.a, v⟩]) := by
  have hr := hs.rng _ (mem_getB hi)
  have key : ∀ n, memB [(⟨s[i]!.a, v⟩ : Blk)] n = (memB [s[i]!] n && !memB t n) := fun n => by
    rw [memB_one, memB_one]
    by_cases e : s[i]!.a = ((n / 64 : Nat) : Int)
    · rw [hb n e]
      cases s[i]!.w.testBit (n % 64) <;> simp [e]
    · rw [decide_eq_false e]; rfl
  have hm : ∀ n, (memB out n || memB [(⟨s[i]!.a, v⟩ : Blk)] n) = (memB (s.take (i + 1)) n && !memB t n) := fun n => by
    rw [h.mem, key, take_nextB hi, memB_app]
    cases memB (s.take i) n <;> cases memB t n <;> simp
  by_cases h0 : v = 0
  · rw [if_pos h0]
    subst h0
    refine ⟨h.wf, fun n => ?_, fun j hj p h1 h2 => h.lo j hj p (by omega) h2, by have := h.len; omega⟩
    rw [← hm, memB_one]
    simp
  · rw [if_neg h0]
    refine ⟨h.wf.snoc (fun j hj => h.lo j hj i (Nat.le_refl _) hi) ⟨hr.1, hr.2.1, by show 0 < v; omega, hv⟩, fun n => ?_, fun j hj p h1 h2 => ?_, by have := h.len; simp; omega⟩
    · rw [memB_app]; exact hm n
    · have hj' : j < out.length + 1 := by simpa using hj
      rw [snoc_get _ _ hj']
      split
      · exact h.lo j (by assumption) p (by omega) h2
      · exact hs.up i p (by omega) h2
theorem LInv.done {s t out : List Blk} (h : LInv s t s.length out) : WFB out ∧ (∀ n, memB out n = (memB s n && !memB t n)) ∧ out.length ≤ s.length := by
  refine ⟨h.wf, fun n => ?_, h.len⟩
  rw [h.mem, List.take_length]
end Go.Proofs.Ytjggjhgbobmkhaa

/- Plain: how many bits a word has, as math/bits counts them; the bytes of a set's key. -/
namespace Go.Proofs.Ytjggjhgbobmkhaa
set_option linter.unusedVariables false
set_option linter.unusedSimpArgs false
def pc : Nat → Nat → Nat
  | 0, _ => 0
  | f + 1, x => x % 2 + pc f (x / 2)
theorem filt_pc : ∀ (n w : Nat), ((List.range n).filter fun i => w.testBit i).length = pc n w
  | 0, w => rfl
  | n + 1, w => by
    have h := filt_pc n (w / 2)
    have e : (((List.range n).map Nat.succ).filter fun i => w.testBit i).length = pc n (w / 2) := by
      rw [List.filter_map, List.length_map, ← h]
      congr 1
      refine List.filter_congr fun x _ => ?_
      simp [Nat.testBit_succ]
    rw [List.range_succ_eq_map]
    show _ = w % 2 + pc n (w / 2)
    by_cases h0 : w.testBit 0 = true
    · rw [List.filter_cons_of_pos h0, List.length_cons, e]
      have : w % 2 = 1 := by simpa [Nat.testBit_zero] using h0
      omega
    · rw [List.filter_cons_of_neg h0, e]
      have : w % 2 ≠ 1 := by simpa [Nat.testBit_zero] using h0
      omega
theorem bitsOf_pc (w : Nat) : (bitsOf w).length = pc 64 w := filt_pc 64 w
theorem pc_8 (m x : Nat) : pc (m + 8) x = pc 8 (x % 256) + pc m (x / 256) := by
  simp only [pc]
  have e : x / 2 / 2 / 2 / 2 / 2 / 2 / 2 / 2 = x / 256 := by omega
  rw [e]
  omega
/-! ### Masks, byte by byte -/
def rep (m : Nat) : Nat → Nat
  | 0 => 0
  | n + 1 => 256 * rep m n + m
theorem mask8 (k a b m M : Nat) (ha : a < 256) (hm : m < 256) (hk : k ≤ 8) (hmk : m < 2 ^ (8 - k)) : (256 * b + a) >>> k &&& (256 * M + m) = 256 * (b >>> k &&& M) + (a >>> k &&& m) := by
  have e8 : (256 : Nat) = 2 ^ 8 := rfl
  have hA : a >>> k &&& m < 2 ^ 8 := Nat.lt_of_le_of_lt Nat.and_le_right hm
  refine Nat.eq_of_testBit_eq fun j => ?_
  rw [e8, Nat.testBit_and, Nat.testBit_shiftRight, Nat.testBit_two_pow_mul_add _ ha, Nat.testBit_two_pow_mul_add _ hm, Nat.testBit_two_pow_mul_add _ hA, Nat.testBit_and, Nat.testBit_and, Nat.testBit_shiftRight, Nat.testBit_shiftRight]
  by_cases h : j < 8
  · rw [if_pos h, if_pos h]
    by_cases h2 : k + j < 8
    · rw [if_pos h2]
    · have : m.testBit j = false := Nat.testBit_lt_two_pow (Nat.lt_of_lt_of_le hmk (Nat.pow_le_pow_right (by omega) (by omega)))
      rw [this]; simp
  · rw [if_neg h, if_neg h, if_neg (by omega)]
    congr 2
    omega
def F1 (m M x : Nat) : Nat := (x >>> m &&& M) + (x &&& M)
theorem F1_byte (k a b m M : Nat) (ha : a < 256) (hm : m < 256) (hk : k ≤ 8) (hmk : m < 2 ^ (8 - k)) : F1 k (256 * M + m) (256 * b + a) = 256 * F1 k M b + F1 k m a := by
  have h0 := mask8 0 a b m M ha hm (by omega) hm
  simp only [Nat.shiftRight_zero] at h0
  unfold F1
  rw [mask8 k a b m M ha hm hk hmk, h0]
  omega
def F3 (M x : Nat) : Nat := (x >>> 4 + x) &&& M
theorem F3_byte (a b M : Nat) (ha : a < 256) (h1 : a % 16 + a / 16 ≤ 15) (h2 : b % 16 + a / 16 ≤ 15) : F3 (256 * M + 15) (256 * b + a) = 256 * F3 M b + (a % 16 + a / 16) := by
  have e : (256 * b + a) >>> 4 + (256 * b + a) = 256 * (b >>> 4 + b) + (16 * (b % 16 + a / 16) + (a % 16 + a / 16)) := by
    simp only [Nat.shiftRight_eq_div_pow]
    omega
  have h0 := mask8 0 (16 * (b % 16 + a / 16) + (a % 16 + a / 16)) (b >>> 4 + b) 15 M (by omega) (by omega) (by omega) (by omega)
  simp only [Nat.shiftRight_zero] at h0
  unfold F3
  rw [e, h0]
  have : (16 * (b % 16 + a / 16) + (a % 16 + a / 16)) &&& 15 = a % 16 + a / 16 := by
    rw [show (15 : Nat) = 2 ^ 4 - 1 from rfl, Nat.and_two_pow_sub_one_eq_mod]
    omega
  rw [this]
def F2 (y : Nat) : Nat := F1 2 51 (F1 1 85 y)
theorem byte_all : ∀ y, y < 256 → F1 1 85 y < 256 ∧ F2 y < 256 ∧ F2 y % 16 ≤ 4 ∧ F2 y / 16 ≤ 4 ∧ F2 y % 16 + F2 y / 16 = pc 8 y := by decide +kernel
def pcs : Nat → Nat → Nat
  | 0, _ => 0
  | n + 1, x => 256 * pcs n (x / 256) + pc 8 (x % 256)
theorem swar : ∀ n x, x < 256 ^ n → F3 (rep 15 n) (F1 2 (rep 51 n) (F1 1 (rep 85 n) x)) = pcs n x ∧ F1 2 (rep 51 n) (F1 1 (rep 85 n) x) % 16 ≤ 4
  | 0, x, h => by simp [F3, F1, rep, pcs]
  | n + 1, x, h => by
    obtain ⟨h1, h2⟩ := swar n (x / 256) (by rw [Nat.pow_succ] at h; omega)
    have hx : x = 256 * (x / 256) + x % 256 := by omega
    have hb := byte_all (x % 256) (Nat.mod_lt _ (by omega))
    have e1 : F1 1 (rep 85 (n + 1)) x = 256 * F1 1 (rep 85 n) (x / 256) + F1 1 85 (x % 256) := by
      conv => lhs; rw [hx]
      exact F1_byte 1 _ _ 85 _ (Nat.mod_lt _ (by omega)) (by omega) (by omega) (by decide)
    have e2 : F1 2 (rep 51 (n + 1)) (F1 1 (rep 85 (n + 1)) x) = 256 * F1 2 (rep 51 n) (F1 1 (rep 85 n) (x / 256)) + F2 (x % 256) := by
      rw [e1]
      exact F1_byte 2 _ _ 51 _ hb.1 (by omega) (by omega) (by decide)
    rw [e2]
    refine ⟨?_, by omega⟩
    have e3 := F3_byte (F2 (x % 256)) (F1 2 (rep 51 n) (F1 1 (rep 85 n) (x / 256))) (rep 15 n) hb.2.1 (by omega) (by omega)
    show F3 (256 * rep 15 n + 15) _ = 256 * pcs n (x / 256) + pc 8 (x % 256)
    rw [e3, h1, hb.2.2.2.2]
theorem pc8_le : ∀ y, y < 256 → pc 8 y ≤ 8 := by decide +kernel
/-- The sums at the end. -/
theorem sh1 {x y z p q : Nat} (e : x = 256 * y + p) (f : y = 256 * z + q) : x + y = 256 * (y + z) + (p + q) := by omega
theorem bd1 {x y p B C : Nat} (e : x = 256 * y + p) (h : p ≤ 8) (hy : y ≤ B) (hC : 256 * B + 8 = C) : x ≤ C := by omega
theorem dv1 {x y p : Nat} (e : x = 256 * y + p) (h : p ≤ 8) : x / 256 = y := by omega
theorem dv2 {x y z p q : Nat} (e : x = 256 * y + p) (f : y = 256 * z + q) (h : p ≤ 16) (k : q ≤ 16) : x / 65536 = z := by omega
theorem sh2 {a b c d p q : Nat} (e : a = 256 * b + p) (f : c = 256 * d + q) : a + c = 256 * (b + d) + (p + q) := by omega
theorem dv4 {a b c d e p q r s : Nat} (h1 : a = 256 * b + p) (h2 : b = 256 * c + q) (h3 : c = 256 * d + r) (h4 : d = 256 * e + s) (k1 : p ≤ 32) (k2 : q ≤ 32) (k3 : r ≤ 32) (k4 : s ≤ 32) : a / 4294967296 = e := by omega
theorem md4 {a b c d p q : Nat} (h1 : a = 256 * b + p) (h2 : c = 256 * d + q) (k1 : p ≤ 32) (k2 : q ≤ 32) : (a + c) % 128 = p + q := by omega
theorem bg1 {x a b c : Nat} (h1 : a ≤ 2260630401189896) (h2 : b ≤ 8830587504648) (h3 : c ≤ 34494482440) (h : x ≤ 578721382704613384) : x + a + (b + c) < 9223372036854775808 := by omega
theorem bg2 {x a b c d e f g : Nat} (h1 : a ≤ 2260630401189896) (h2 : b ≤ 8830587504648) (h3 : c ≤ 34494482440) (h4 : d ≤ 134744072) (h5 : e ≤ 526344) (h6 : f ≤ 2056) (h7 : g ≤ 8) (h : x ≤ 578721382704613384) : x + a + (b + c) + (d + e + (f + g)) < 9223372036854775808 := by omega
theorem sums {p0 p1 p2 p3 p4 p5 p6 p7 x y1 y2 y3 y4 y5 y6 y7 : Nat} (e0 : x = 256 * y1 + p0) (e1 : y1 = 256 * y2 + p1) (e2 : y2 = 256 * y3 + p2) (e3 : y3 = 256 * y4 + p3) (e4 : y4 = 256 * y5 + p4) (e5 : y5 = 256 * y6 + p5) (e6 : y6 = 256 * y7 + p6) (e7 : y7 = p7)
    (h0 : p0 ≤ 8) (h1 : p1 ≤ 8) (h2 : p2 ≤ 8) (h3 : p3 ≤ 8) (h4 : p4 ≤ 8) (h5 : p5 ≤ 8) (h6 : p6 ≤ 8) (h7 : p7 ≤ 8) :
    ∃ x4 x5 x6, x4 = x + x / 256 ∧ x5 = x4 + x4 / 65536 ∧ x6 = x5 + x5 / 4294967296 ∧ x4 < 9223372036854775808 ∧ x5 < 9223372036854775808 ∧ x6 < 9223372036854775808 ∧ x6 % 128 = p0 + p1 + p2 + p3 + p4 + p5 + p6 + p7 := by
  have b7 : y7 ≤ 8 := by rw [e7]; exact h7
  have e7 : y7 = 256 * 0 + p7 := by rw [e7]; simp
  have b6 := bd1 e6 h6 b7 rfl
  have b5 := bd1 e5 h5 b6 rfl
  have b4 := bd1 e4 h4 b5 rfl
  have b3 := bd1 e3 h3 b4 rfl
  have b2 := bd1 e2 h2 b3 rfl
  have b1 := bd1 e1 h1 b2 rfl
  have b0 := bd1 e0 h0 b1 rfl
  have f1 : x / 256 = y1 := dv1 e0 h0
  have k0 := sh1 e0 e1
  have k1 := sh1 e1 e2
  have k2 := sh1 e2 e3
  have k3 := sh1 e3 e4
  have k4 := sh1 e4 e5
  have k5 := sh1 e5 e6
  have k6 := sh1 e6 e7
  have q : ∀ {a b : Nat}, a ≤ 8 → b ≤ 8 → a + b ≤ 16 := fun h k => Nat.add_le_add h k
  have q2 : ∀ {a b : Nat}, a ≤ 16 → b ≤ 16 → a + b ≤ 32 := fun h k => Nat.add_le_add h k
  have f2 := dv2 k0 k1 (q h0 h1) (q h1 h2)
  have n0 := sh2 k0 k2
  have n1 := sh2 k1 k3
  have n2 := sh2 k2 k4
  have n3 := sh2 k3 k5
  have n4 := sh2 k4 k6
  have f3 := dv4 n0 n1 n2 n3 (q2 (q h0 h1) (q h2 h3)) (q2 (q h1 h2) (q h3 h4)) (q2 (q h2 h3) (q h4 h5)) (q2 (q h3 h4) (q h5 h6))
  have hz : x + y1 < 9223372036854775808 := Nat.lt_of_le_of_lt (Nat.add_le_add b0 b1) (by decide)
  have ym : y1 ≤ 2260630401189896 ∧ y2 ≤ 8830587504648 ∧ y3 ≤ 34494482440 ∧ y4 ≤ 134744072 ∧ y5 ≤ 526344 ∧ x ≤ 578721382704613384 := ⟨b1, b2, b3, b4, b5, b0⟩
  refine ⟨x + y1, x + y1 + (y2 + y3), x + y1 + (y2 + y3) + (y4 + y5 + (y6 + y7)), by rw [f1], by rw [f2], by rw [f3], hz, ?_, ?_, ?_⟩
  · exact bg1 ym.1 ym.2.1 ym.2.2.1 ym.2.2.2.2.2
  · exact bg2 ym.1 ym.2.1 ym.2.2.1 ym.2.2.2.1 ym.2.2.2.2.1 b6 b7 ym.2.2.2.2.2
  · rw [md4 n0 n4 (q2 (q h0 h1) (q h2 h3)) (q2 (q h4 h5) (q h6 h7))]
    simp only [Nat.add_assoc]
theorem reps : rep 85 8 = 6148914691236517205 ∧ rep 51 8 = 3689348814741910323 ∧ rep 15 8 = 1085102592571150095 := by decide +kernel
/-- As the library counts. -/
theorem pop64 {x : Nat} (h : x < 18446744073709551616) : ∃ x1 x2 x3 x4 x5 x6, x1 = (x >>> 1 &&& 6148914691236517205) + (x &&& 6148914691236517205) ∧ x2 = (x1 >>> 2 &&& 3689348814741910323) + (x1 &&& 3689348814741910323) ∧
    x3 = (x2 >>> 4 + x2) &&& 1085102592571150095 ∧ x4 = x3 + x3 / 256 ∧ x5 = x4 + x4 / 65536 ∧ x6 = x5 + x5 / 4294967296 ∧ x1 < 18446744073709551616 ∧ x2 < 9223372036854775808 ∧ x2 >>> 4 + x2 < 18446744073709551616 ∧ x4 < 9223372036854775808 ∧ x5 < 9223372036854775808 ∧ x6 < 9223372036854775808 ∧ x6 % 128 = (bitsOf x).length := by
  obtain ⟨hs, _⟩ := swar 8 x h
  obtain ⟨r1, r2, r3⟩ := reps
  rw [r1, r2, r3] at hs
  have b0 := pc8_le (x % 256) (Nat.mod_lt _ (by omega))
  have b1 := pc8_le (x / 256 % 256) (Nat.mod_lt _ (by omega))
  have b2 := pc8_le (x / 256 / 256 % 256) (Nat.mod_lt _ (by omega))
  have b3 := pc8_le (x / 256 / 256 / 256 % 256) (Nat.mod_lt _ (by omega))
  have b4 := pc8_le (x / 256 / 256 / 256 / 256 % 256) (Nat.mod_lt _ (by omega))
  have b5 := pc8_le (x / 256 / 256 / 256 / 256 / 256 % 256) (Nat.mod_lt _ (by omega))
  have b6 := pc8_le (x / 256 / 256 / 256 / 256 / 256 / 256 % 256) (Nat.mod_lt _ (by omega))
  have b7 := pc8_le (x / 256 / 256 / 256 / 256 / 256 / 256 / 256 % 256) (Nat.mod_lt _ (by omega))
  have hl : (bitsOf x).length = pc 8 (x % 256) + pc 8 (x / 256 % 256) + pc 8 (x / 256 / 256 % 256) + pc 8 (x / 256 / 256 / 256 % 256) + pc 8 (x / 256 / 256 / 256 / 256 % 256) + pc 8 (x / 256 / 256 / 256 / 256 / 256 % 256) + pc 8 (x / 256 / 256 / 256 / 256 / 256 / 256 % 256) + pc 8 (x / 256 / 256 / 256 / 256 / 256 / 256 / 256 % 256) := by
    have e1 : pc 64 x = pc 8 (x % 256) + pc 56 (x / 256) := pc_8 56 _
    have e2 : pc 56 (x / 256) = pc 8 (x / 256 % 256) + pc 48 (x / 256 / 256) := pc_8 48 _
    have e3 : pc 48 (x / 256 / 256) = pc 8 (x / 256 / 256 % 256) + pc 40 (x / 256 / 256 / 256) := pc_8 40 _
    have e4 : pc 40 (x / 256 / 256 / 256) = pc 8 (x / 256 / 256 / 256 % 256) + pc 32 (x / 256 / 256 / 256 / 256) := pc_8 32 _
    have e5 : pc 32 (x / 256 / 256 / 256 / 256) = pc 8 (x / 256 / 256 / 256 / 256 % 256) + pc 24 (x / 256 / 256 / 256 / 256 / 256) := pc_8 24 _
    have e6 : pc 24 (x / 256 / 256 / 256 / 256 / 256) = pc 8 (x / 256 / 256 / 256 / 256 / 256 % 256) + pc 16 (x / 256 / 256 / 256 / 256 / 256 / 256) := pc_8 16 _
    have e7 : pc 16 (x / 256 / 256 / 256 / 256 / 256 / 256) = pc 8 (x / 256 / 256 / 256 / 256 / 256 / 256 % 256) + pc 8 (x / 256 / 256 / 256 / 256 / 256 / 256 / 256) := pc_8 8 _
    have e8 : pc 8 (x / 256 / 256 / 256 / 256 / 256 / 256 / 256) = pc 8 (x / 256 / 256 / 256 / 256 / 256 / 256 / 256 % 256) := pc_8 0 _
    rw [bitsOf_pc, e1, e2, e3, e4, e5, e6, e7, e8]
    simp only [Nat.add_assoc]
  have q : ∀ n y, pcs (n + 1) y = 256 * pcs n (y / 256) + pc 8 (y % 256) := fun _ _ => rfl
  obtain ⟨x4, x5, x6, e4, e5, e6, l4, l5, l6, e7⟩ := sums (q 7 x) (q 6 _) (q 5 _) (q 4 _) (q 3 _) (q 2 _) (q 1 _) (by rw [q]; simp only [pcs, Nat.mul_zero, Nat.zero_add]) b0 b1 b2 b3 b4 b5 b6 b7
  have m1 : F1 1 6148914691236517205 x ≤ 6148914691236517205 + 6148914691236517205 := Nat.add_le_add Nat.and_le_right Nat.and_le_right
  have m2 : ∀ y, F1 2 3689348814741910323 y ≤ 3689348814741910323 + 3689348814741910323 := fun y => Nat.add_le_add Nat.and_le_right Nat.and_le_right
  have m3 := m2 (F1 1 6148914691236517205 x)
  refine ⟨_, _, pcs 8 x, x4, x5, x6, rfl, rfl, hs.symm, e4, e5, e6, ?_, ?_, ?_, l4, l5, l6, e7.trans hl.symm⟩
  · show F1 1 6148914691236517205 x < _; omega
  · show F1 2 3689348814741910323 (F1 1 6148914691236517205 x) < _; omega
  · show F1 2 3689348814741910323 (F1 1 6148914691236517205 x) >>> 4 + F1 2 3689348814741910323 (F1 1 6148914691236517205 x) < _
    rw [Nat.shiftRight_eq_div_pow]
    omega
/-! ### The key -/
def keyOf (b : Blk) : List Nat := (List.range 4).map (fun i => b.a.toNat / 2 ^ (8 * i) % 256) ++ (List.range 8).map fun i => b.w / 2 ^ (8 * i) % 256
def keyB (bs : List Blk) : List Nat := bs.flatMap keyOf
theorem keyOf_len (b : Blk) : (keyOf b).length = 12 := by simp [keyOf]
theorem keyOf_inj {x y : Blk} (hx : 0 ≤ x.a ∧ x.a < 4294967296 ∧ x.w < 18446744073709551616) (hy : 0 ≤ y.a ∧ y.a < 4294967296 ∧ y.w < 18446744073709551616) (h : keyOf x = keyOf y) : x = y := by
  have := List.append_inj h (by simp)
  obtain ⟨h1, h2⟩ := this
  simp only [List.range_succ, List.range_zero, List.map_append, List.map_nil, List.map_cons, List.nil_append, List.cons_append, List.cons.injEq, List.append_assoc, and_true] at h1 h2
  cases x; cases y
  simp only [Blk.mk.injEq] at *
  omega
theorem keyB_inj : ∀ {xs ys : List Blk}, (∀ b ∈ xs, 0 ≤ b.a ∧ b.a < 4294967296 ∧ b.w < 18446744073709551616) → (∀ b ∈ ys, 0 ≤ b.a ∧ b.a < 4294967296 ∧ b.w < 18446744073709551616) → keyB xs = keyB ys → xs = ys
  | [], [], _, _, _ => rfl
  | [], y :: ys, _, _, h => by
    have h : [] = keyOf y ++ keyB ys := h
    have := congrArg List.length h
    rw [List.length_append, keyOf_len] at this
    simp only [List.length_nil] at this
    omega
  | x :: xs, [], _, _, h => by
    have h : keyOf x ++ keyB xs = [] := h
    have := congrArg List.length h
    rw [List.length_append, keyOf_len] at this
    simp only [List.length_nil] at this
    omega
  | x :: xs, y :: ys, hx, hy, h => by
    have h : keyOf x ++ keyB xs = keyOf y ++ keyB ys := h
    obtain ⟨h1, h2⟩ := List.append_inj h (by rw [keyOf_len, keyOf_len])
    rw [keyOf_inj (hx x (by simp)) (hy y (by simp)) h1, keyB_inj (fun b hb => hx b (by simp [hb])) (fun b hb => hy b (by simp [hb])) h2]
end Go.Proofs.Ytjggjhgbobmkhaa

/- Sets of numbers in memory: rows of blocks; what leaves all but some blocks as it was; steps that their functions need. -/
namespace Go.Proofs.Ytjggjhgbobmkhaa
open Go.RowKit
set_option linter.unusedVariables false
set_option linter.unusedSimpArgs false
/-- All that was there is as it was, but for the blocks of rb. -/
structure Kept (rb : List Nat) (w w' : World) : Prop where
  os : w'.os = w.os
  tape : w'.tape = w.tape
  output : w'.output = w.output
  size : w.heap.size ≤ w'.heap.size
  block : ∀ k, k < w.heap.size → k ∉ rb → w'.heap[k]? = w.heap[k]?
section
variable {rb rb2 : List Nat} {w w1 w2 : World}
theorem Kept.of (h : Below w.heap.size w w1) : Kept rb w w1 := ⟨h.os, h.tape, h.output, h.size, fun k hk _ => h.block k hk⟩
theorem Kept.refl (rb : List Nat) (w : World) : Kept rb w w := Kept.of (Below.refl _ _)
/-- One step more; what it writes that is new doesn't count. -/
theorem Kept.trans (h : Kept rb w w1) (k : Kept rb2 w1 w2) (hs : ∀ b ∈ rb2, b ∈ rb ∨ w.heap.size ≤ b) : Kept rb w w2 :=
  ⟨k.os.trans h.os, k.tape.trans h.tape, k.output.trans h.output, Nat.le_trans h.size k.size, fun i hi hn => (k.block i (Nat.lt_of_lt_of_le hi h.size) (fun hm => (hs i hm).elim hn (fun h3 => by omega))).trans (h.block i hi hn)⟩
theorem Kept.up (h : Kept rb w w1) (k : Below w1.heap.size w1 w2) : Kept rb w w2 := h.trans (Kept.of (rb := []) k) (by simp)
theorem Kept.put (h : Kept rb w w1) {g : Nat} {cs : List Value} {t : TypeId} (hp : Put w1 w2 g cs t) (hg : g ∈ rb ∨ w.heap.size ≤ g) : Kept rb w w2 :=
  h.trans (rb2 := [g]) ⟨hp.grown.os, hp.grown.tape, hp.grown.output, hp.grown.size, fun k hk hn => hp.grown.block k hk (by simp; intro e; subst e; exact hn (by simp))⟩ (by simpa using hg)
theorem Kept.grown {row : Option Nat} (h : Kept rb w w1) (hg : w1.grownBy w2 row) (hr : ∀ g, row = some g → g ∈ rb ∨ w.heap.size ≤ g) : Kept rb w w2 :=
  h.trans (rb2 := row.toList) ⟨hg.os, hg.tape, hg.output, hg.size, fun k hk hn => hg.block k hk (fun e => hn (by simp [← e]))⟩ (fun b hb => hr b (by simpa using hb))
theorem Kept.blk (h : Kept rb w w1) {g : Nat} {o : Obj} (hb : w.heap[g]? = some o) (hn : g ∉ rb) : w1.heap[g]? = some o := (h.block g (blk_lt hb) hn).trans hb
theorem Kept.below {w0 : World} {B : Nat} (h : Kept rb w w1) (hb : Below B w0 w) (hB : B ≤ w.heap.size) (hr : ∀ k ∈ rb, B ≤ k) : Below B w0 w1 :=
  hb.trans ⟨h.os, h.tape, h.output, h.size, fun k hk => h.block k (Nat.lt_of_lt_of_le hk hB) fun hm => by have := hr k hm; omega⟩
theorem Kept.more (h : Kept rb w w1) (hs : ∀ b ∈ rb, b ∈ rb2) : Kept rb2 w w1 := ⟨h.os, h.tape, h.output, h.size, fun k hk hn => h.block k hk (fun hm => hn (hs k hm))⟩
end
/-! ### Blocks of numbers -/
def dBlk : Dec Blk := fun _ cs b => cs = [.int .i64 b.a, .int .u64 (b.w : Int)]
theorem stays_Blk : Stays dBlk := ⟨fun _ _ _ _ _ h => h⟩
def blkC (b : Blk) : List Value := [.int .i64 b.a, .int .u64 (b.w : Int)]
def flatB (bs : List Blk) : List Value := bs.flatMap blkC
theorem flatB_len (bs : List Blk) : (flatB bs).length = bs.length * 2 := by
  induction bs with
  | nil => rfl
  | cons b bs ih =>
    have : (flatB (b :: bs)).length = 2 + (flatB bs).length := by simp [flatB, blkC]; omega
    rw [this, ih, List.length_cons]; omega
theorem flatB_app (xs ys : List Blk) : flatB (xs ++ ys) = flatB xs ++ flatB ys := by simp [flatB]
theorem flatB_one (b : Blk) : flatB [b] = blkC b := by simp [flatB]
theorem flatB_cons (b : Blk) (bs : List Blk) : flatB (b :: bs) = blkC b ++ flatB bs := by simp [flatB]
theorem flatB_take (bs : List Blk) (i : Nat) (hi : i ≤ bs.length) : (flatB bs).take (i * 2) = flatB (bs.take i) := by
  conv => lhs; rw [← List.take_append_drop i bs, flatB_app]
  rw [List.take_append_of_le_length (by rw [flatB_len, List.length_take]; omega), List.take_of_length_le (by rw [flatB_len, List.length_take]; omega)]
theorem flatB_drop (bs : List Blk) (i : Nat) (hi : i ≤ bs.length) : (flatB bs).drop (i * 2) = flatB (bs.drop i) := by
  conv => lhs; rw [← List.take_append_drop i bs, flatB_app]
  have e : (flatB (bs.take i)).length = i * 2 := by rw [flatB_len]; simp; omega
  rw [← e, List.drop_left]
theorem flatB_at (bs : List Blk) (i : Nat) (hi : i < bs.length) : ((flatB bs).drop (i * 2)).take 2 = blkC bs[i]! := by
  rw [flatB_drop bs i (by omega), getElem!_pos bs i hi, List.drop_eq_getElem_cons hi, flatB_cons]
  rfl
theorem elemsB (w : World) (bs : List Blk) : Elems 2 dBlk w (flatB bs) bs := ⟨flatB_len bs, fun i hi => flatB_at bs i hi⟩
theorem oneB (bs : List Blk) : ∀ u ∈ flatB bs, u.oneCell' = true := by
  intro u hu
  obtain ⟨b, _, hb⟩ := List.mem_flatMap.1 hu
  simp [blkC] at hb
  rcases hb with rfl | rfl <;> rfl
abbrev ownsB (w : World) (base : Nat) (V : Value) (bs : List Blk) : Prop := w.ownsRow base 82 2 V bs.length (flatB bs)
theorem ownsB.row {w : World} {base : Nat} {V : Value} {bs : List Blk} (h : ownsB w base V bs) : ∃ A c, V = .slice A bs.length c ∧ bs.length ≤ c ∧ RowR 2 dBlk w A bs := row_of_own h rfl (elemsB w bs)
theorem ownsB.rowAt {w : World} {base : Nat} {A : Option Addr} {n c : Nat} {bs : List Blk} (h : ownsB w base (.slice A n c) bs) : n = bs.length ∧ bs.length ≤ c ∧ RowR 2 dBlk w A bs := by
  obtain ⟨A', c', e1, h1, h2⟩ := h.row
  injection e1 with e1 e2 e3
  subst e1 e2 e3
  exact ⟨rfl, h1, h2⟩
theorem ownsB.keep {w w1 : World} {base : Nat} {V : Value} {bs : List Blk} (h : ownsB w base V bs) (hb : ∀ b, V.ownBlock = some b → w1.heap[b]? = w.heap[b]?) : ownsB w1 base V bs := by
  refine ⟨h.1, h.2.imp id ?_⟩
  rintro ⟨g, cap, cur, h4, h5, h6, h7⟩
  refine ⟨g, cap, cur, h4, h5, ?_, h7⟩
  rw [hb g (by rw [h4]; rfl)]
  exact h6
theorem ownsB.lower {w : World} {base b' : Nat} {V : Value} {bs : List Blk} (h : ownsB w base V bs) (hb : b' ≤ base) : ownsB w b' V bs := by
  refine ⟨h.1, h.2.imp id ?_⟩
  rintro ⟨g, cap, cur, h4, h5, h6⟩
  exact ⟨g, cap, cur, h4, Nat.le_trans hb h5, h6⟩
/-- A block's two cells, where they lie. -/
theorem rowB_at {w : World} {A : Option Addr} {bs : List Blk} (h : RowR 2 dBlk w A bs) (i : Nat) (hi : i < bs.length) : ∃ ad, A = some ad ∧ cellsAt w (ad.add (i * 2)) 0 [.int .i64 bs[i]!.a, .int .u64 (bs[i]!.w : Int)] := by
  obtain ⟨ad, cs, e, _, hc, hd⟩ := row_at h i hi
  rw [show cs = _ from hd] at hc
  exact ⟨ad, e, hc⟩
/-! ### A set -/
structure PSet (base g : Nat) (w : World) (bs : List Blk) (fp : List Nat) : Prop where
  ex : ∃ V, w.heap[g]? = some (.cells #[V] 76 (0, 0)) ∧ ownsB w base V bs ∧ fp = g :: V.ownBlock.toList ∧ V.ownBlock ≠ some g
  ge : base ≤ g
  wf : WFB bs
section
variable {base g : Nat} {w w1 : World} {bs : List Blk} {fp : List Nat}
theorem PSet.lt (h : PSet base g w bs fp) : ∀ b ∈ fp, base ≤ b ∧ b < w.heap.size := by
  obtain ⟨V, h1, h2, rfl, _⟩ := h.ex
  intro b hb
  rcases List.mem_cons.1 hb with rfl | hb
  · exact ⟨h.ge, blk_lt h1⟩
  · exact h2.lt b (mem_own hb)
theorem PSet.keep (h : PSet base g w bs fp) (hb : ∀ b ∈ fp, w1.heap[b]? = w.heap[b]?) : PSet base g w1 bs fp := by
  obtain ⟨V, h1, h2, rfl, h4⟩ := h.ex
  exact ⟨⟨V, (hb g (by simp)).trans h1, h2.keep (fun b e => hb b (by simp [e])), rfl, h4⟩, h.ge, h.wf⟩
theorem PSet.up (h : PSet base g w bs fp) (hb : Below w.heap.size w w1) : PSet base g w1 bs fp := h.keep fun b hb' => hb.block b (h.lt b hb').2
theorem PSet.kept {rb : List Nat} (h : PSet base g w bs fp) (hk : Kept rb w w1) (hd : ∀ b ∈ fp, b ∉ rb) : PSet base g w1 bs fp := h.keep fun b hb' => hk.block b (h.lt b hb').2 (hd b hb')
theorem PSet.lower {b' : Nat} (h : PSet base g w bs fp) (hb : b' ≤ base) : PSet b' g w bs fp := by
  obtain ⟨V, h1, h2, h3, h4⟩ := h.ex
  exact ⟨⟨V, h1, h2.lower hb, h3, h4⟩, Nat.le_trans hb h.ge, h.wf⟩
end
/-! ### Steps -/
section
variable {P : Program} {T : Nat → Option TI} {n : Nat} {Q : Post} {F : Fm} {w : World} {ops : Array Oper} {rest : List Oper} {o : Oper} {K : Fm → Prop} {C : World → Prop}
/-- A function of two results. -/
theorem fin2 {fn : Func} {R : Ending → World → Prop} {s t : Tmp} {u v : Value} (hr : fn.results = #[.tmp s, .tmp t]) (hu : opn (F s) = some u) (hv : opn (F t) = some v) (h : R (.returned (.tuple #[u, v])) w) : Fin P fn R F w := by
  rw [opn_eq] at hu hv
  have hu := Option.some.inj hu
  have hv := Option.some.inj hv
  unfold Fin retQ
  intro tmps ht
  refine ⟨.tuple #[u, v], ?_, h⟩
  rw [results_tmp2 hr tmps P w, ht s, ht t, hu, hv]
/-- append(v, make(.., m)...), where there is no room. -/
theorem wl_apz (hT : TabOk P T) (e s b : Nat) {t tn : TypeId} {kn : IntKind} {c : Call} {x y : Operand} {g sLen sCap m : Nat} {mi : Int} {i : TI} {olds z : List Value} {cur : List Value} {t' : TypeId} (hop : o.op = .call c) (hcal : c.callee = .builtin .append) (hargs : c.args.toList = [x, y]) (htys : c.argTypes.toList = [t, tn])
    (hx : ev F x = .slice (some ⟨g, 0, none⟩) sLen sCap) (hmi : mi = (m : Int)) (hy : ev F y = .int .i64 mi) (h1 : appT T t e s b = true) (htn : P.underlying tn = some (.int kn)) (hi : T e = some i) (hz : i.zero.cells = z.toArray) (hs0 : Nat.blt 0 s = true) (hg : o.guard = none) {d : Nat} (hd : o.dst = some d) (hn : Nat.blt d n = true)
    (hb : w.heap[g]? = some (.cells cur.toArray t' (0, 0))) (hol : olds = cur.take (sLen * s)) (hl : sLen * s ≤ cur.length) (hm0 : 0 < m) (hgr : sCap < sLen + m) (hbig : (sLen + m) * b ≤ 140737488355328) (h63 : sLen + m ≤ 9223372036854775807)
    (k : ∀ cap w1 more, New w w1 w.heap.size (olds ++ (List.replicate m z).flatten ++ more) e → sLen + m ≤ cap → cap ≤ maxLen → (olds ++ (List.replicate m z).flatten ++ more).length = cap * s → wl P n ops rest Q (upd F d (.slice (some ⟨w.heap.size, 0, none⟩) (sLen + m) cap)) w1) : wl P n ops (o :: rest) Q F w := by
  subst hmi
  obtain ⟨hu, j, z', hj, hz', hs, hby, hzs⟩ := appT_ok hT h1
  obtain ⟨j2, hj2, hz2, _, _⟩ := T_i hT hi
  rw [hj] at hj2
  cases hj2
  rw [hz'] at hz2
  cases hz2
  obtain ⟨callee, ⟨args⟩, ⟨tys⟩⟩ := c
  simp only at hcal hargs htys
  subst hcal hargs htys
  have hlen : (cur.take (sLen * s)).length = sLen * s := by simp; omega
  have hold : (Builtin.firstCells j.size sLen (.slice (some ⟨g, 0, none⟩) sLen sCap)).run P w.drew = .ok olds.toArray w.drew := by
    have := run_loadCells_list (P := P) w.drew ⟨g, 0, none⟩ olds (fun q u hu => by
      have e : w.drew.cell? ((⟨g, 0, none⟩ : Addr).add q) = w.cell? ((⟨g, 0, none⟩ : Addr).add q) := rfl
      rw [e, add_zero]
      refine cell_blk hb ?_
      rw [hol] at hu
      rw [List.getElem?_take] at hu
      split at hu
      · simpa using hu
      · cases hu)
    rw [hol, hlen] at this
    simp only [Builtin.firstCells, hs, hol]
    exact this
  have hneed : sLen + m ≤ maxLen := by simp only [maxLen]; omega
  have hfit : Builtin.nextslicecap (sLen + m) sCap * j.bytes ≤ 281474976710656 := growslice_fits hgr (by rw [hby]; exact hbig)
  have hmb : m * j.bytes ≤ 281474976710656 := by
    have : m * j.bytes ≤ (sLen + m) * b := by rw [hby]; exact Nat.mul_le_mul_right _ (by omega)
    omega
  have hr := Lib.run_append_grow_zeros (P := P) w t tn o.type e j i.zero .i64 kn hu htn hj hz' (some ⟨g, 0, none⟩) sLen sCap olds hold m hm0 (by rw [hs]; exact nblt hs0) hgr (by omega) hmb hfit
  have hzl : z.length = s := by rw [hz] at hzs; simpa using hzs
  have hc : ∀ q, Builtin.zeroCells i.zero.cells q = ((List.replicate q z).flatten).toArray := fun q => by
    rw [← zeros_eq z q]
    unfold Builtin.zeroCells
    rw [hz]
    apply Array.ext'
    simp
  rw [hc, hc] at hr
  refine wl_val hg hd hn (v := .slice (some ⟨w.heap.size, 0, none⟩) (sLen + m) (grownCap w (sLen + m) sCap e)) (w1 := w.drew.alloc (.cells (olds ++ (List.replicate m z).flatten ++ (List.replicate (grownCap w (sLen + m) sCap e - (sLen + m)) z).flatten).toArray e)) ?_ (k _ _ (List.replicate (grownCap w (sLen + m) sCap e - (sLen + m)) z).flatten ?_ (grownCap_ge ..) (grownCap_le_maxLen _ _ _ _ hneed) ?_)
  · simp only [List.append_toArray] at hr
    simp [execOp, hop, resolve, invoke, builtin, hx, hy, hr]
  · have hn2 := new_alloc w.drew (olds ++ (List.replicate m z).flatten ++ (List.replicate (grownCap w (sLen + m) sCap e - (sLen + m)) z).flatten) e
    exact ⟨hn2.at_, hn2.size, hn2.blk, ⟨hn2.below.os, hn2.below.tape, hn2.below.output, hn2.below.size, hn2.below.block⟩⟩
  · have hge := grownCap_ge w (sLen + m) sCap e
    have : grownCap w (sLen + m) sCap e = sLen + m + (grownCap w (sLen + m) sCap e - (sLen + m)) := by omega
    rw [this]
    simp only [List.length_append, List.length_flatten, List.map_replicate, List.sum_replicate_nat, hol, hlen, hzl, Nat.add_mul, Nat.add_sub_cancel_left]
/-! ### nil or not -/
def ptrT (T : Nat → Option TI) (t : Nat) : Bool := match T t with
  | some ⟨.pointer _, _, _, _⟩ => true
  | _ => false
theorem pn_run (hT : TabOk P T) {t : TypeId} {x : Operand} {yt : TypeId} {A : Option Addr} (hop : o.op = .binOp .eql t x (.const (.pointer none)) yt) (hx : ev F x = .pointer A) (h1 : ptrT T t = true) : (execOp (ev F) o).run P w = .ok (.value (.bool A.isNone)) w := by
  unfold ptrT at h1
  split at h1
  · rename_i e1
    have hu := T_u hT e1
    have h2 : (Op.equal t (.pointer A) (.pointer none)).run P w = .ok A.isNone w := by
      unfold Op.equal Op.maxDepth
      rw [show (10000 : Nat) = 9999 + 1 from rfl]
      unfold Op.equalIn
      cases A <;> simp [run_und hu]
    have hy : ev F (.const (.pointer none)) = .pointer none := rfl
    simp [execOp, hop, hx, hy, eqGuard, binOp, h2]
  · cases h1
theorem wl_pnT (hT : TabOk P T) {t : TypeId} {x : Operand} {yt : TypeId} (hop : o.op = .binOp .eql t x (.const (.pointer none)) yt) (hx : ev F x = .pointer none) (h1 : ptrT T t = true) (hg : o.guard = none) {d : Nat} (hd : o.dst = some d) (hn : Nat.blt d n = true)
    (k : wl P n ops rest Q (upd F d (.bool true)) w) : wl P n ops (o :: rest) Q F w := wl_val hg hd hn (pn_run hT hop hx h1) k
theorem wl_pnF (hT : TabOk P T) {t : TypeId} {x : Operand} {yt : TypeId} {a : Addr} (hop : o.op = .binOp .eql t x (.const (.pointer none)) yt) (hx : ev F x = .pointer (some a)) (h1 : ptrT T t = true) (hg : o.guard = none) {d : Nat} (hd : o.dst = some d) (hn : Nat.blt d n = true)
    (k : wl P n ops rest Q (upd F d (.bool false)) w) : wl P n ops (o :: rest) Q F w := wl_val hg hd hn (pn_run hT hop hx h1) k
theorem pnn_run (hT : TabOk P T) {t : TypeId} {x : Operand} {yt : TypeId} {A : Option Addr} (hop : o.op = .binOp .neq t x (.const (.pointer none)) yt) (hx : ev F x = .pointer A) (h1 : ptrT T t = true) : (execOp (ev F) o).run P w = .ok (.value (.bool (!A.isNone))) w := by
  unfold ptrT at h1
  split at h1
  · rename_i e1
    have hu := T_u hT e1
    have h2 : (Op.equal t (.pointer A) (.pointer none)).run P w = .ok A.isNone w := by
      unfold Op.equal Op.maxDepth
      rw [show (10000 : Nat) = 9999 + 1 from rfl]
      unfold Op.equalIn
      cases A <;> simp [run_und hu]
    have hy : ev F (.const (.pointer none)) = .pointer none := rfl
    simp [execOp, hop, hx, hy, eqGuard, binOp, h2]
  · cases h1
theorem wl_pqT (hT : TabOk P T) {t : TypeId} {x : Operand} {yt : TypeId} (hop : o.op = .binOp .neq t x (.const (.pointer none)) yt) (hx : ev F x = .pointer none) (h1 : ptrT T t = true) (hg : o.guard = none) {d : Nat} (hd : o.dst = some d) (hn : Nat.blt d n = true)
    (k : wl P n ops rest Q (upd F d (.bool false)) w) : wl P n ops (o :: rest) Q F w := wl_val hg hd hn (pnn_run hT hop hx h1) k
theorem wl_pqF (hT : TabOk P T) {t : TypeId} {x : Operand} {yt : TypeId} {a : Addr} (hop : o.op = .binOp .neq t x (.const (.pointer none)) yt) (hx : ev F x = .pointer (some a)) (h1 : ptrT T t = true) (hg : o.guard = none) {d : Nat} (hd : o.dst = some d) (hn : Nat.blt d n = true)
    (k : wl P n ops rest Q (upd F d (.bool true)) w) : wl P n ops (o :: rest) Q F w := wl_val hg hd hn (pnn_run hT hop hx h1) k
/-! ### cap, cuts with their ends told, functions without a body -/
theorem wl_cap (hT : TabOk P T) (e s : Nat) {c : Call} {x : Operand} {t : TypeId} {A : Option Addr} {l cp : Nat} (hop : o.op = .call c) (hcal : c.callee = .builtin .cap) (hargs : c.args.toList = [x]) (htys : c.argTypes.toList = [t]) (hx : ev F x = .slice A l cp) (h1 : sliceT T t e s = true) (hg : o.guard = none) {d : Nat} (hd : o.dst = some d) (hn : Nat.blt d n = true)
    (k : wl P n ops rest Q (upd F d (.int .i64 cp)) w) : wl P n ops (o :: rest) Q F w := by
  refine wl_val hg hd hn ?_ k
  obtain ⟨hu, _⟩ := sliceT_ok (w := w) hT h1
  obtain ⟨callee, ⟨args⟩, ⟨tys⟩⟩ := c
  simp only at hcal hargs htys
  subst hcal hargs htys
  simp [execOp, hop, resolve, invoke, builtin, hx, Builtin.cap_, run_und hu, goInt]
theorem wl_slLr (hT : TabOk P T) (e s : Nat) {t : TypeId} {x y : Operand} {A B : Option Addr} {l c l2 c2 : Nat} {ki : IntKind} {h : Int} {hn' : Nat} (hh : h = (hn' : Int)) (hB : cutA A hn' c s = B) (hl2 : l2 = l - hn') (hc2 : c2 = c - hn') (hc : hn' ≤ l) (hop : o.op = .slice t x (some y) none none) (hx : ev F x = .slice A l c) (hy : ev F y = .int ki h) (h1 : sliceT T t e s = true) (hg : o.guard = none) {d : Nat} (hd : o.dst = some d) (hn : Nat.blt d n = true)
    (k : wl P n ops rest Q (upd F d (.slice B l2 c2)) w) : wl P n ops (o :: rest) Q F w := by
  subst hh hB hl2 hc2
  refine wl_slL hT e s hop hx hy h1 hg hd hn (by omega) (by omega) ?_
  simpa using k
theorem wq_slLr (hT : TabOk P T) (e s : Nat) {t : TypeId} {x y : Operand} {A B : Option Addr} {l c l2 c2 : Nat} {ki : IntKind} {h : Int} {hn' : Nat} (hh : h = (hn' : Int)) (hB : cutA A hn' c s = B) (hl2 : l2 = l - hn') (hc2 : c2 = c - hn') (hc : hn' ≤ l) (hop : o.op = .slice t x (some y) none none) (hx : ev F x = .slice A l c) (hy : ev F y = .int ki h) (h1 : sliceT T t e s = true) (hg : o.guard = none) {d : Nat} (hd : o.dst = some d) (hn : Nat.blt d n = true)
    (k : wq P n ops C rest K (upd F d (.slice B l2 c2))) : wq P n ops C (o :: rest) K F := by
  subst hh hB hl2 hc2
  refine wq_slL hT e s hop hx hy h1 hg hd hn (by omega) (by omega) ?_
  simpa using k
theorem wl_slHr (hT : TabOk P T) (e s : Nat) {t : TypeId} {x y : Operand} {A : Option Addr} {l c : Nat} {ki : IntKind} {h : Int} {hn' : Nat} (hh : h = (hn' : Int)) (hc : hn' ≤ c) (hop : o.op = .slice t x none (some y) none) (hx : ev F x = .slice A l c) (hy : ev F y = .int ki h) (h1 : sliceT T t e s = true) (hg : o.guard = none) {d : Nat} (hd : o.dst = some d) (hn : Nat.blt d n = true)
    (k : wl P n ops rest Q (upd F d (.slice A hn' c)) w) : wl P n ops (o :: rest) Q F w := by
  subst hh
  refine wl_slH hT e s hop hx hy h1 hg hd hn (by omega) (by omega) ?_
  simpa using k
theorem cut_in {g off i c s : Nat} (h : i < c) : cutA (some ⟨g, off, none⟩) i c s = some ⟨g, off + i * s, none⟩ := by
  unfold cutA
  rw [if_neg (by omega)]
  unfold Addr.add
  simp only [Option.map_some]
  split
  · rename_i e; rw [e]; rfl
  · rfl
theorem wl_ext {f : FuncId} {c : Call} {x : Operand} {args : List Value} {v : Value} (he : (callFunc f args.toArray).run P w = .ok (.value v) w) (hop : o.op = .call c) (hcal : c.callee = .value x) (hx : ev F x = .func (.func f) #[] #[]) (hargs : c.args.toList.map (ev F) = args) (hg : o.guard = none) {d : Nat} (hd : o.dst = some d) (hn : Nat.blt d n = true)
    (k : wl P n ops rest Q (upd F d v) w) : wl P n ops (o :: rest) Q F w := by
  refine wl_val hg hd hn ?_ k
  have : c.args.map (ev F) = args.toArray := Array.toList_inj.1 (by rw [Array.toList_map, hargs])
  simp [execOp, hop, resolve, hcal, hx, Deferred.ofValue, this, invoke, he]
end
end Go.Proofs.Ytjggjhgbobmkhaa

/- Regions that draw their order: one invariant for all orders; the orders are checked over lists. -/
namespace Go.Proofs.Ytjggjhgbobmkhaa
open Go.RowKit
set_option linter.unusedVariables false
set_option linter.unusedSimpArgs false
/-- All but the blocks of rb stays. -/
abbrev Kr (w : World) (rb : List Nat) : World → Prop := fun w' => Kept rb w w'
theorem stable_Kr (w : World) (rb : List Nat) : Stable (Kr w rb) := fun _ _ h h' => h.up h'
section
variable {P : Program} {T : Nat → Option TI} {n : Nat} {Q : Post} {F : Fm} {w : World} {C : World → Prop}
theorem xn_run4 (hT : TabOk P T) (e s : Nat) {o : Oper} {t : TypeId} {x ix : Operand} {a : Addr} {len cap : Nat} {ki : IntKind} {i : Nat} (hop : o.op = .indexAddr t x ix) (hx : ev F x = .slice (some a) len cap) (hi : ev F ix = .int ki i) (h1 : sliceT T t e s = true) (hl : i < len) : (execOp (ev F) o).run P w = .ok (.value (.pointer (some (a.add (i * s))))) w := by
  obtain ⟨hu, hs⟩ := sliceT_ok (w := w) hT h1
  have h0 : (0 : Int) ≤ (i : Int) := by omega
  have h2 : (i : Int) < (len : Int) := by omega
  simp [execOp, hop, hx, hi, Instr.indexAt, asIntOf, run_und hu, hs, h2]
  intro hc
  omega
/-- A store, in any order. -/
theorem wb_S (hT : TabOk P T) {o : Oper} {K : Fm → World → Prop} {t t' : TypeId} {x y : Operand} {i : TI} {g off : Nat} {cs : List Value} {v : Value} (hb : w.heap[g]? = some (.cells cs.toArray t' (0, 0))) (hop : o.op = .store t x y) (hx : ev F x = .pointer (some ⟨g, off, none⟩)) (hy : ev F y = v)
    (hi : T t = some i) (h1 : i.size = 1) (hv : v.oneCell' = true) (hoff : off < cs.length) (hd : o.dst = none)
    (k : ∀ w1, Put w w1 g (cs.set off v) t' → K F w1) : wb P n o F w K := by
  refine ⟨by rw [hd]; rfl, .inr (.inr ⟨w.setCell ⟨g, off, none⟩ v, ?_, by rw [hd]; exact k _ (put_setCell hb v)⟩)⟩
  have hs := run_size (w := w) hT hi
  rw [h1] at hs
  have hc : w.cell? ⟨g, off, none⟩ = some cs[off] := cell_blk hb (by simp [hoff])
  have hf : w.frozen? ⟨g, off, none⟩ = false := by simp [World.frozen?, hb]
  cases v <;> simp_all [Value.oneCell', execOp, Instr.storeAt, Instr.sureAddr, storeVar, Value.cells, storeCells, store, Sem.run, Addr.add] <;> rfl
theorem wb_Se (hT : TabOk P T) {o : Oper} {K : Fm → World → Prop} {t t' : TypeId} {x y : Operand} {i : TI} {g j : Nat} {cs : List Value} {v : Value} (hb : w.heap[g]? = some (.cells cs.toArray t' (0, 0))) (hop : o.op = .store t x y) (hx : ev F x = .pointer (some ((⟨g, 0, none⟩ : Addr).add j))) (hy : ev F y = v)
    (hi : T t = some i) (h1 : i.size = 1) (hv : v.oneCell' = true) (hoff : j < cs.length) (hd : o.dst = none)
    (k : ∀ w1, Put w w1 g (cs.set j v) t' → K F w1) : wb P n o F w K :=
  wb_S (off := j) hT hb hop (by rw [hx, add_zero]) hy hi h1 hv hoff hd k
end
end Go.Proofs.Ytjggjhgbobmkhaa

/- A row of numbers whose front is taken away; facts that lie in the blocks of one owner. -/
namespace Go.Proofs.Ytjggjhgbobmkhaa
open Go.RowKit
set_option linter.unusedVariables false
set_option linter.unusedSimpArgs false
def vi (xs : List Nat) : List Value := xs.map fun (x : Nat) => Value.int .i64 (x : Int)
theorem vi_cons (x : Nat) (ys : List Nat) : vi (x :: ys) = .int .i64 (x : Int) :: vi ys := rfl
/-- A row of numbers of the call's own, wherever in its block it begins. -/
structure QRow (base : Nat) (V : Value) (xs : List Nat) (fp : List Nat) (w : World) : Prop where
  ex : (xs = [] ∧ fp = [] ∧ ∃ A, V = .slice A 0 0) ∨ ∃ (g : Nat) (pre post : List Value), fp = [g] ∧ V = .slice (some ⟨g, pre.length, none⟩) xs.length (xs.length + post.length) ∧ base ≤ g ∧
    w.heap[g]? = some (.cells (pre ++ vi xs ++ post).toArray 3 (0, 0)) ∧ xs.length + post.length ≤ 9223372036854775807
section
variable {base : Nat} {V : Value} {xs r fp : List Nat} {w w1 : World} {x : Nat}
theorem QRow.keep (h : QRow base V xs fp w) (hb : ∀ b ∈ fp, w1.heap[b]? = w.heap[b]?) : QRow base V xs fp w1 := by
  rcases h.ex with h | ⟨g, pre, post, h1, h2, h3, h4, h5⟩
  · exact ⟨.inl h⟩
  · exact ⟨.inr ⟨g, pre, post, h1, h2, h3, (hb g (by simp [h1])).trans h4, h5⟩⟩
theorem QRow.lt (h : QRow base V xs fp w) : ∀ b ∈ fp, base ≤ b ∧ b < w.heap.size := by
  rcases h.ex with ⟨_, rfl, _⟩ | ⟨g, pre, post, rfl, h2, h3, h4, h5⟩
  · simp
  · intro b hb; simp at hb; subst hb; exact ⟨h3, blk_lt h4⟩
theorem QRow.form (h : QRow base V xs fp w) : ∃ A c, V = .slice A xs.length c ∧ xs.length ≤ c := by
  rcases h.ex with ⟨rfl, _, A, rfl⟩ | ⟨g, pre, post, h1, h2, h3, h4, h5⟩
  · exact ⟨A, 0, rfl, by simp⟩
  · exact ⟨_, _, h2, by omega⟩
theorem QRow.nil (A : Option Addr) : QRow base (.slice A 0 0) [] [] w := ⟨.inl ⟨rfl, rfl, A, rfl⟩⟩
theorem QRow.head {A : Option Addr} {l c : Nat} (h : QRow base (.slice A l c) (x :: r) fp w) : ∃ ad, A = some ad ∧ w.cell? (ad.add (0 * 1)) = some (.int .i64 (x : Int)) := by
  rcases h.ex with ⟨h1, _⟩ | ⟨g, pre, post, h1, h2, h3, h4, h5⟩
  · cases h1
  · injection h2 with h2 _ _
    subst h2
    refine ⟨_, rfl, ?_⟩
    show w.cell? ⟨g, pre.length, none⟩ = _
    refine cell_blk h4 ?_
    simp [vi_cons]
theorem QRow.tail {A : Option Addr} {l c : Nat} (h : QRow base (.slice A l c) (x :: r) fp w) : ∃ fp', QRow base (.slice (cutA A 1 c 1) r.length (c - 1)) r fp' w ∧ ∀ b ∈ fp', b ∈ fp := by
  rcases h.ex with ⟨h1, _⟩ | ⟨g, pre, post, h1, h2, h3, h4, h5⟩
  · cases h1
  · injection h2 with h2 h6 h7
    subst h2 h7
    by_cases h0 : (x :: r).length + post.length = 1
    · have hr : r = [] := by cases r with | nil => rfl | cons => simp at h0; omega
      subst hr
      have hp : post = [] := by cases post with | nil => rfl | cons => simp at h0
      subst hp
      exact ⟨[], ⟨.inl ⟨rfl, rfl, _, rfl⟩⟩, by simp⟩
    · refine ⟨[g], ⟨.inr ⟨g, pre ++ [.int .i64 (x : Int)], post, rfl, ?_, h3, ?_, ?_⟩⟩, by simp [h1]⟩
      · have hlt : 1 < (x :: r).length + post.length := by simp at h0 ⊢; omega
        rw [cut_in hlt]
        simp
      · rw [h4]; simp [vi_cons]
      · simp at h5 ⊢; omega
end
section
variable {P : Program} {T : Nat → Option TI} {n : Nat} {Q : Post} {F : Fm} {w : World} {ops : Array Oper} {rest : List Oper} {o : Oper}
end
/-! ### owners -/
/-- A fact that lies in blocks of owner k. -/
def AtF (O : Nat → Nat) (k : Nat) (w : World) (P : List Nat → World → Prop) : Prop := ∃ fp : List Nat, (∀ b ∈ fp, O b = k ∧ b < w.heap.size) ∧ ∀ w', (∀ b ∈ fp, w'.heap[b]? = w.heap[b]?) → P fp w'
def newO (O : Nat → Nat) (s k : Nat) : Nat → Nat := fun b => if b < s then O b else k
theorem newO_old {O : Nat → Nat} {s k b : Nat} (h : b < s) : newO O s k b = O b := if_pos h
theorem newO_new {O : Nat → Nat} {s k b : Nat} (h : s ≤ b) : newO O s k b = k := if_neg (by omega)
section
variable {O O1 O2 : Nat → Nat} {k j : Nat} {w w1 w2 : World} {P Q : List Nat → World → Prop} {f : Nat → List Nat → World → Prop}
theorem AtF.now (h : AtF O k w P) : ∃ fp, P fp w ∧ ∀ b ∈ fp, O b = k ∧ b < w.heap.size := let ⟨fp, h1, h2⟩ := h; ⟨fp, h2 w fun _ _ => rfl, h1⟩
theorem AtF.imp (h : AtF O k w P) (hi : ∀ fp w, P fp w → Q fp w) : AtF O k w Q := let ⟨fp, h1, h2⟩ := h; ⟨fp, h1, fun w' hw => hi _ _ (h2 w' hw)⟩
theorem AtF.keep (h : AtF O k w P) (hO : ∀ b, b < w.heap.size → O1 b = O b) (hs : w.heap.size ≤ w1.heap.size) (hb : ∀ b, b < w.heap.size → O b = k → w1.heap[b]? = w.heap[b]?) : AtF O1 k w1 P := by
  obtain ⟨fp, h1, h2⟩ := h
  exact ⟨fp, fun b hb' => ⟨by rw [hO b (h1 b hb').2]; exact (h1 b hb').1, Nat.lt_of_lt_of_le (h1 b hb').2 hs⟩, fun w' hw => h2 w' fun b hb' => (hw b hb').trans (hb b (h1 b hb').2 (h1 b hb').1)⟩
theorem AtF.tr : AtF O k w fun _ _ => True := ⟨[], by simp, fun _ _ => trivial⟩
/-- All facts, each by its owner. -/
def All (O : Nat → Nat) (w : World) (f : Nat → List Nat → World → Prop) : Prop := ∀ k, AtF O k w (f k)
def updF (f : Nat → List Nat → World → Prop) (k : Nat) (P : List Nat → World → Prop) : Nat → List Nat → World → Prop := fun j => if j = k then P else f j
/-- What blocks of other owners than 50 to 99 come to; the owners stay. -/
structure Stp (O O1 : Nat → Nat) (w w1 : World) : Prop where
  os : w1.os = w.os
  tape : w1.tape = w.tape
  output : w1.output = w.output
  size : w.heap.size ≤ w1.heap.size
  own : ∀ b, b < w.heap.size → O1 b = O b
  fr : ∀ b, b < w.heap.size → 50 ≤ O b → O b < 100 → w1.heap[b]? = w.heap[b]?
theorem Stp.refl (O : Nat → Nat) (w : World) : Stp O O w w := ⟨rfl, rfl, rfl, Nat.le_refl _, fun _ _ => rfl, fun _ _ _ _ => rfl⟩
theorem Stp.trans (h : Stp O O1 w w1) (k : Stp O1 O2 w1 w2) : Stp O O2 w w2 :=
  ⟨k.os.trans h.os, k.tape.trans h.tape, k.output.trans h.output, Nat.le_trans h.size k.size, fun b hb => (k.own b (Nat.lt_of_lt_of_le hb h.size)).trans (h.own b hb),
   fun b hb h1 h2 => (k.fr b (Nat.lt_of_lt_of_le hb h.size) (by rw [h.own b hb]; exact h1) (by rw [h.own b hb]; exact h2)).trans (h.fr b hb h1 h2)⟩
theorem Stp.up (hb : Below w.heap.size w w1) (k : Nat) : Stp O (newO O w.heap.size k) w w1 := ⟨hb.os, hb.tape, hb.output, hb.size, fun _ h => newO_old h, fun b h _ _ => hb.block b h⟩
theorem Stp.kept {rb : List Nat} (hk : Kept rb w w1) (hr : ∀ b ∈ rb, b < w.heap.size → O b = k) (h5 : k < 50 ∨ 100 ≤ k) (k' : Nat) : Stp O (newO O w.heap.size k') w w1 :=
  ⟨hk.os, hk.tape, hk.output, hk.size, fun _ h => newO_old h, fun b h h1 h2 => hk.block b h fun hm => by have := hr b hm h; omega⟩
theorem Stp.below {base : Nat} (h : Stp O O1 w w1) (hl : ∀ b, b < base → O b = 99) (hb : base ≤ w.heap.size) : Below base w w1 :=
  ⟨h.os, h.tape, h.output, h.size, fun b hlt => h.fr b (by omega) (by rw [hl b hlt]; omega) (by rw [hl b hlt]; omega)⟩
theorem Stp.low {base : Nat} (h : Stp O O1 w w1) (hl : ∀ b, b < base → O b = 99) (hb : base ≤ w.heap.size) : ∀ b, b < base → O1 b = 99 := fun b hlt => by rw [h.own b (by omega)]; exact hl b hlt
theorem AtF.stp (h : AtF O k w P) (hs : Stp O O1 w w1) (h1 : 50 ≤ k) (h2 : k < 100) : AtF O1 k w1 P := h.keep hs.own hs.size fun b hb e => hs.fr b hb (by omega) (by omega)
theorem All.up (h : All O w f) (hb : Below w.heap.size w w1) (k : Nat) : All (newO O w.heap.size k) w1 f := fun j => (h j).keep (fun _ => newO_old) hb.size fun b hlt _ => hb.block b hlt
/-- Owner k's fact becomes P. -/
theorem All.put {rb fp : List Nat} (h : All O w f) (hk : Kept rb w w1) (hr : ∀ b ∈ rb, b < w.heap.size → O b = k) (hfp : ∀ b ∈ fp, (b < w.heap.size → O b = k) ∧ b < w1.heap.size) (hP : ∀ w', (∀ b ∈ fp, w'.heap[b]? = w1.heap[b]?) → P fp w') : All (newO O w.heap.size k) w1 (updF f k P) := fun j => by
  unfold updF
  split
  · rename_i e
    subst e
    refine ⟨fp, fun b hb => ⟨?_, (hfp b hb).2⟩, hP⟩
    by_cases hlt : b < w.heap.size
    · rw [newO_old hlt]; exact (hfp b hb).1 hlt
    · rw [newO_new (by omega)]
  · rename_i e
    exact (h j).keep (fun _ => newO_old) hk.size fun b hb ho => hk.block b hb fun hm => e (by rw [← ho]; exact hr b hm hb)
theorem All.imp {f' : Nat → List Nat → World → Prop} (h : All O w f) (hi : ∀ j fp w, f j fp w → f' j fp w) : All O w f' := fun j => (h j).imp (hi j)
end
end Go.Proofs.Ytjggjhgbobmkhaa
