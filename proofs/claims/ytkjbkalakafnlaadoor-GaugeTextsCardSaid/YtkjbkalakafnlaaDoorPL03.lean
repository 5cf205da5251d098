/- Plain: sets of numbers in blocks of 64: what is in them; how they come to be one list; joined, made less, told. -/
namespace Go.Proofs.YtkjbkalakafnlaaDoor
set_option linter.unusedVariables false
set_option linter.unusedSimpArgs false
structure Blk where
  a : Int
  w : Nat
deriving Inhabited, DecidableEq
/-- Is a number in it? -/
def memB (bs : List Blk) (n : Nat) : Bool := bs.any fun b => decide (b.a = ((n / 64 : Nat) : Int)) && b.w.testBit (n % 64)
structure WFB (bs : List Blk) : Prop where
  up : ∀ i j, i < j → j < bs.length → bs[i]!.a < bs[j]!.a
  rng : ∀ b ∈ bs, 0 ≤ b.a ∧ b.a < 144115188075855872 ∧ 0 < b.w ∧ b.w < 18446744073709551616
theorem WFB.nil : WFB [] := ⟨fun i j _ h => by simp at h, by simp⟩
theorem mem_getB {bs : List Blk} {i : Nat} (h : i < bs.length) : bs[i]! ∈ bs := by rw [getElem!_pos bs i h]; exact List.getElem_mem h
theorem get_of_mem {bs : List Blk} {b : Blk} (h : b ∈ bs) : ∃ i, i < bs.length ∧ bs[i]! = b := by
  obtain ⟨i, hi, e⟩ := List.getElem_of_mem h
  exact ⟨i, hi, by rw [getElem!_pos bs i hi]; exact e⟩
theorem memB_iff {bs : List Blk} {n : Nat} : memB bs n = true ↔ ∃ b ∈ bs, b.a = ((n / 64 : Nat) : Int) ∧ b.w.testBit (n % 64) = true := by
  simp [memB, List.any_eq_true]
theorem memB_nil (n : Nat) : memB [] n = false := rfl
theorem memB_app (xs ys : List Blk) (n : Nat) : memB (xs ++ ys) n = (memB xs n || memB ys n) := by simp [memB]
theorem memB_one (b : Blk) (n : Nat) : memB [b] n = (decide (b.a = ((n / 64 : Nat) : Int)) && b.w.testBit (n % 64)) := by simp [memB]
theorem WFB.inj {bs : List Blk} (h : WFB bs) {i j : Nat} (hi : i < bs.length) (hj : j < bs.length) (e : bs[i]!.a = bs[j]!.a) : i = j := by
  rcases Nat.lt_trichotomy i j with h1 | h1 | h1
  · have := h.up i j h1 hj; omega
  · exact h1
  · have := h.up j i h1 hi; omega
/-- The block at a place tells of its numbers. -/
theorem WFB.at_ {bs : List Blk} (h : WFB bs) {i n : Nat} (hi : i < bs.length) (e : bs[i]!.a = ((n / 64 : Nat) : Int)) : memB bs n = bs[i]!.w.testBit (n % 64) := by
  rw [Bool.eq_iff_iff, memB_iff]
  refine ⟨fun ⟨b, hb, e2, hw⟩ => ?_, fun hw => ⟨_, mem_getB hi, e, hw⟩⟩
  obtain ⟨j, hj, rfl⟩ := get_of_mem hb
  rw [h.inj hi hj (e.trans e2.symm)]
  exact hw
theorem memB_none {bs : List Blk} {n : Nat} (h : ∀ i, i < bs.length → bs[i]!.a ≠ ((n / 64 : Nat) : Int)) : memB bs n = false := by
  rw [Bool.eq_false_iff]
  intro hm
  obtain ⟨b, hb, e, _⟩ := memB_iff.1 hm
  obtain ⟨i, hi, rfl⟩ := get_of_mem hb
  exact h i hi e
theorem bit_some {w : Nat} (h0 : 0 < w) (h1 : w < 18446744073709551616) : ∃ i, i < 64 ∧ w.testBit i = true := by
  obtain ⟨i, hi⟩ := Nat.exists_testBit_of_ne_zero (by omega : w ≠ 0)
  refine ⟨i, ?_, hi⟩
  rcases Nat.lt_or_ge i 64 with h | h
  · exact h
  · have : w < 2 ^ i := Nat.lt_of_lt_of_le h1 (Nat.pow_le_pow_right (n := 2) (by omega) h)
    rw [Nat.testBit_lt_two_pow this] at hi
    cases hi
theorem bit_hi {w : Nat} (h1 : w < 18446744073709551616) {i : Nat} (h : 64 ≤ i) : w.testBit i = false :=
  Nat.testBit_lt_two_pow (Nat.lt_of_lt_of_le h1 (Nat.pow_le_pow_right (n := 2) (by omega) h))
/-- Lists of one order that have the same blocks are one. -/
theorem sorted_eq : ∀ {xs ys : List Blk}, (∀ i j, i < j → j < xs.length → xs[i]!.a < xs[j]!.a) → (∀ i j, i < j → j < ys.length → ys[i]!.a < ys[j]!.a) → (∀ b, b ∈ xs ↔ b ∈ ys) → xs = ys
  | [], [], _, _, _ => rfl
  | [], y :: ys, _, _, h => by have := (h y).2 (by simp); cases this
  | x :: xs, [], _, _, h => by have := (h x).1 (by simp); cases this
  | x :: xs, y :: ys, h1, h2, h => by
    have tail : ∀ {z : Blk} {zs : List Blk}, (∀ i j, i < j → j < (z :: zs).length → (z :: zs)[i]!.a < (z :: zs)[j]!.a) → ∀ b ∈ zs, z.a < b.a := fun {z zs} hz b hb => by
      obtain ⟨j, hj, rfl⟩ := get_of_mem hb
      have := hz 0 (j + 1) (by omega) (by simpa using hj)
      simpa using this
    have e : x = y := by
      have m1 := (h x).1 (by simp)
      have m2 := (h y).2 (by simp)
      rcases List.mem_cons.1 m1 with e | m1
      · exact e
      · rcases List.mem_cons.1 m2 with e | m2
        · exact e.symm
        · have := tail h2 x m1; have := tail h1 y m2; omega
    subst e
    have e2 : xs = ys := by
      refine sorted_eq (fun i j hij hj => by simpa using h1 (i + 1) (j + 1) (by omega) (by simpa using hj)) (fun i j hij hj => by simpa using h2 (i + 1) (j + 1) (by omega) (by simpa using hj)) fun b => ⟨fun hb => ?_, fun hb => ?_⟩
      · rcases List.mem_cons.1 ((h b).1 (by simp [hb])) with e | m
        · subst e; have := tail h1 b hb; omega
        · exact m
      · rcases List.mem_cons.1 ((h b).2 (by simp [hb])) with e | m
        · subst e; have := tail h2 b hb; omega
        · exact m
    rw [e2]
theorem num_div (a : Int) (h : 0 ≤ a) (i : Nat) (hi : i < 64) : (((64 * a.toNat + i) / 64 : Nat) : Int) = a ∧ (64 * a.toNat + i) % 64 = i := by omega
/-- Sets with the same numbers are one list. -/
theorem canonB {xs ys : List Blk} (hx : WFB xs) (hy : WFB ys) (h : ∀ n, memB xs n = memB ys n) : xs = ys := by
  have half : ∀ {xs ys : List Blk}, WFB xs → WFB ys → (∀ n, memB xs n = memB ys n) → ∀ b ∈ xs, b ∈ ys := fun {xs ys} hx hy h b hb => by
    have hr := hx.rng b hb
    obtain ⟨i, hi, hw⟩ := bit_some hr.2.2.1 hr.2.2.2
    have hn := num_div b.a hr.1 i hi
    have hm : memB xs (64 * b.a.toNat + i) = true := memB_iff.2 ⟨b, hb, hn.1.symm, by rw [hn.2]; exact hw⟩
    rw [h] at hm
    obtain ⟨c, hc, e, _⟩ := memB_iff.1 hm
    rw [hn.1] at e
    have : b.w = c.w := by
      refine Nat.eq_of_testBit_eq fun k => ?_
      rcases Nat.lt_or_ge k 64 with hk | hk
      · have hn := num_div b.a hr.1 k hk
        obtain ⟨p, hp, ep⟩ := get_of_mem hb
        obtain ⟨q, hq, eq⟩ := get_of_mem hc
        have h1 := hx.at_ hp (n := 64 * b.a.toNat + k) (by rw [ep]; exact hn.1.symm)
        have h2 := hy.at_ hq (n := 64 * b.a.toNat + k) (by rw [eq, e]; exact hn.1.symm)
        rw [ep, hn.2] at h1
        rw [eq, hn.2] at h2
        rw [← h1, ← h2, h]
      · rw [bit_hi hr.2.2.2 hk, bit_hi (hy.rng c hc).2.2.2 hk]
    have : b = c := by cases b; cases c; simp_all
    rw [this]
    exact hc
  exact sorted_eq hx.up hy.up fun b => ⟨half hx hy h b, half hy hx (fun n => (h n).symm) b⟩
theorem snoc_get (xs : List Blk) (x : Blk) {j : Nat} (h : j < xs.length + 1) : (xs ++ [x])[j]! = if j < xs.length then xs[j]! else x := by
  rw [getElem!_pos (xs ++ [x]) j (by simpa using h), List.getElem_append]
  split
  · rename_i h1; rw [getElem!_pos xs j h1]
  · simp
/-- One more, behind all. -/
theorem WFB.snoc {xs : List Blk} {x : Blk} (h : WFB xs) (hx : ∀ i, i < xs.length → xs[i]!.a < x.a) (hr : 0 ≤ x.a ∧ x.a < 144115188075855872 ∧ 0 < x.w ∧ x.w < 18446744073709551616) : WFB (xs ++ [x]) := by
  refine ⟨fun i j hij hj => ?_, fun b hb => ?_⟩
  · have hj' : j < xs.length + 1 := by simpa using hj
    rw [snoc_get _ _ (by omega), snoc_get _ _ hj', if_pos (by omega)]
    split
    · exact h.up i j hij (by assumption)
    · exact hx i (by omega)
  · rcases List.mem_append.1 hb with hb | hb
    · exact h.rng b hb
    · rw [List.mem_singleton.1 hb]; exact hr
/-! ### One more number -/
theorem testBit_pow (k j : Nat) : (2 ^ k).testBit j = decide (k = j) := by rw [Nat.testBit_two_pow]
/-- Its block is there. -/
theorem add_there {bs : List Blk} (h : WFB bs) {i n : Nat} (hi : i < bs.length) (e : bs[i]!.a = ((n / 64 : Nat) : Int)) :
    WFB (bs.set i ⟨bs[i]!.a, bs[i]!.w ||| 2 ^ (n % 64)⟩) ∧ ∀ m, memB (bs.set i ⟨bs[i]!.a, bs[i]!.w ||| 2 ^ (n % 64)⟩) m = (memB bs m || decide (m = n)) := by
  have gs : ∀ j, j < bs.length → (bs.set i ⟨bs[i]!.a, bs[i]!.w ||| 2 ^ (n % 64)⟩)[j]! = if i = j then ⟨bs[i]!.a, bs[i]!.w ||| 2 ^ (n % 64)⟩ else bs[j]! := fun j hj => by
    rw [getElem!_pos _ j (by simpa using hj), List.getElem_set]
    split
    · rfl
    · rw [getElem!_pos bs j hj]
  have ga : ∀ j, j < bs.length → (bs.set i ⟨bs[i]!.a, bs[i]!.w ||| 2 ^ (n % 64)⟩)[j]!.a = bs[j]!.a := fun j hj => by
    rw [gs j hj]
    split
    · rename_i e; rw [e]
    · rfl
  have hw : WFB (bs.set i ⟨bs[i]!.a, bs[i]!.w ||| 2 ^ (n % 64)⟩) := by
    refine ⟨fun j k hjk hk => ?_, fun b hb => ?_⟩
    · have hk' : k < bs.length := by simpa using hk
      rw [ga j (by omega), ga k hk']
      exact h.up j k hjk hk'
    · obtain ⟨j, hj, rfl⟩ := get_of_mem hb
      have hj' : j < bs.length := by simpa using hj
      rw [gs j hj']
      split
      · have hr := h.rng _ (mem_getB hi)
        have h1 : bs[i]!.w ||| 2 ^ (n % 64) < 2 ^ 64 := Nat.or_lt_two_pow hr.2.2.2 (Nat.pow_lt_pow_right (by omega) (Nat.mod_lt _ (by omega)))
        have h2 : bs[i]!.w ≤ bs[i]!.w ||| 2 ^ (n % 64) := Nat.left_le_or
        exact ⟨hr.1, hr.2.1, by show 0 < bs[i]!.w ||| _; omega, h1⟩
      · exact h.rng _ (mem_getB hj')
  refine ⟨hw, fun m => ?_⟩
  by_cases hm : ((m / 64 : Nat) : Int) = ((n / 64 : Nat) : Int)
  · have hl : i < (bs.set i ⟨bs[i]!.a, bs[i]!.w ||| 2 ^ (n % 64)⟩).length := by simpa using hi
    rw [hw.at_ hl (n := m) (by rw [ga i hi, e, hm]), h.at_ hi (n := m) (by rw [e, hm]), gs i hi, if_pos rfl]
    show (bs[i]!.w ||| 2 ^ (n % 64)).testBit (m % 64) = _
    rw [Nat.testBit_or, testBit_pow]
    congr 1
    rw [decide_eq_decide]
    omega
  · have hd : decide (m = n) = false := by rw [decide_eq_false_iff_not]; intro e2; exact hm (by rw [e2])
    rw [hd, Bool.or_false, Bool.eq_iff_iff, memB_iff, memB_iff]
    constructor
    · rintro ⟨b, hb, e1, e2⟩
      obtain ⟨j, hj, rfl⟩ := get_of_mem hb
      have hj' : j < bs.length := by simpa using hj
      have hne : i ≠ j := fun q => by subst q; rw [ga i hi] at e1; exact hm (e1.symm.trans e)
      rw [gs j hj', if_neg hne] at e1 e2
      exact ⟨_, mem_getB hj', e1, e2⟩
    · rintro ⟨b, hb, e1, e2⟩
      obtain ⟨j, hj, rfl⟩ := get_of_mem hb
      have hne : i ≠ j := fun q => by subst q; exact hm (e1.symm.trans e)
      have := gs j hj
      rw [if_neg hne] at this
      exact ⟨_, by rw [← this]; exact mem_getB (by simpa using hj), e1, e2⟩
theorem insB_get (bs : List Blk) (i : Nat) (x : Blk) (hi : i ≤ bs.length) {j : Nat} (hj : j < bs.length + 1) : (bs.take i ++ x :: bs.drop i)[j]! = if j < i then bs[j]! else if j = i then x else bs[j - 1]! := by
  have hl : (bs.take i ++ x :: bs.drop i).length = bs.length + 1 := by simp; omega
  rw [getElem!_pos _ j (by rw [hl]; exact hj), List.getElem_append]
  by_cases h : j < i
  · rw [dif_pos (by simp; omega), if_pos h, getElem!_pos bs j (by omega)]
    simp
  · rw [dif_neg (by simp; omega), if_neg h]
    by_cases e : j = i
    · subst e
      simp [Nat.min_eq_left hi]
    · rw [if_neg e, getElem!_pos bs (j - 1) (by omega)]
      have : j - (bs.take i).length = (j - i - 1) + 1 := by simp; omega
      simp only [this, List.getElem_cons_succ, List.getElem_drop]
      congr 1
      omega
/-- It isn't there. -/
theorem add_new {bs : List Blk} (h : WFB bs) {i n : Nat} (hi : i ≤ bs.length) (hlo : ∀ j, j < i → bs[j]!.a < ((n / 64 : Nat) : Int)) (hhi : ∀ j, i ≤ j → j < bs.length → ((n / 64 : Nat) : Int) < bs[j]!.a) (hn : n < 9223372036854775808) :
    WFB (bs.take i ++ ⟨((n / 64 : Nat) : Int), 2 ^ (n % 64)⟩ :: bs.drop i) ∧ (∀ m, memB (bs.take i ++ ⟨((n / 64 : Nat) : Int), 2 ^ (n % 64)⟩ :: bs.drop i) m = (memB bs m || decide (m = n))) ∧ memB bs n = false := by
  have g := @insB_get bs i ⟨((n / 64 : Nat) : Int), 2 ^ (n % 64)⟩ hi
  have hl : (bs.take i ++ ⟨((n / 64 : Nat) : Int), 2 ^ (n % 64)⟩ :: bs.drop i).length = bs.length + 1 := by simp; omega
  refine ⟨⟨fun j k hjk hk => ?_, fun b hb => ?_⟩, fun m => ?_, memB_none fun j hj e => ?_⟩
  · rw [hl] at hk
    rw [@g j (by omega), @g k hk]
    by_cases h1 : k < i
    · rw [if_pos h1, if_pos (by omega)]
      exact h.up j k hjk (by omega)
    · rw [if_neg h1]
      by_cases h2 : k = i
      · rw [if_pos h2, if_pos (by omega)]
        exact hlo j (by omega)
      · rw [if_neg h2]
        by_cases h3 : j < i
        · rw [if_pos h3]
          exact h.up j (k - 1) (by omega) (by omega)
        · rw [if_neg h3]
          by_cases h4 : j = i
          · rw [if_pos h4]
            exact hhi (k - 1) (by omega) (by omega)
          · rw [if_neg h4]
            exact h.up (j - 1) (k - 1) (by omega) (by omega)
  · rcases List.mem_append.1 hb with hb | hb
    · exact h.rng b (List.mem_of_mem_take hb)
    · rcases List.mem_cons.1 hb with rfl | hb
      · have h2 : 2 ^ (n % 64) < 2 ^ 64 := Nat.pow_lt_pow_right (by omega) (Nat.mod_lt _ (by omega))
        exact ⟨by show (0 : Int) ≤ ((n / 64 : Nat) : Int); omega, by show ((n / 64 : Nat) : Int) < _; omega, Nat.two_pow_pos _, h2⟩
      · exact h.rng b (List.mem_of_mem_drop hb)
  · have e : memB bs m = (memB (bs.take i) m || memB (bs.drop i) m) := by rw [← memB_app, List.take_append_drop]
    have e2 : (⟨((n / 64 : Nat) : Int), 2 ^ (n % 64)⟩ : Blk) :: bs.drop i = [⟨((n / 64 : Nat) : Int), 2 ^ (n % 64)⟩] ++ bs.drop i := rfl
    rw [e2, memB_app, memB_app, memB_one, e]
    have e3 : (decide (((n / 64 : Nat) : Int) = ((m / 64 : Nat) : Int)) && (2 ^ (n % 64)).testBit (m % 64)) = decide (m = n) := by
      rw [testBit_pow, ← Bool.decide_and, decide_eq_decide]
      omega
    rw [e3]
    cases memB (bs.take i) m <;> cases memB (bs.drop i) m <;> simp
  · rcases Nat.lt_or_ge j i with h1 | h1
    · have := hlo j h1; omega
    · have := hhi j h1 hj; omega
end Go.Proofs.YtkjbkalakafnlaaDoor
