/- Matrices of truths: what a pass over constraints does to them (no program in sight). -/
import Derived.Test.YtomldckplkecbaaY8
namespace Go.Proofs.Ytomldckplkecbaa
open Go.RowKit
set_option linter.unusedVariables false
set_option linter.unusedSimpArgs false
abbrev Mat := List (List Bool)
def mg (M : Mat) (i o : Nat) : Bool := (M[i]!)[o]!
structure Shape (n c : Nat) (M : Mat) : Prop where
  rows : M.length = n
  cols : ∀ i, i < n → M[i]!.length = c
def LeM (M N : Mat) : Prop := ∀ i o, mg M i o = true → mg N i o = true
theorem LeM.refl (M : Mat) : LeM M M := fun _ _ h => h
theorem LeM.trans {M N O : Mat} (h : LeM M N) (k : LeM N O) : LeM M O := fun i o g => k i o (h i o g)
theorem mg_out {n c : Nat} {M : Mat} (h : Shape n c M) {i o : Nat} (hio : ¬ (i < n ∧ o < c)) : mg M i o = false := by
  unfold mg
  by_cases hi : i < n
  · have hl := h.cols i hi
    rw [List.getElem!_eq_getElem?_getD, List.getElem?_eq_none (by omega)]
    rfl
  · have : M[i]! = [] := by rw [List.getElem!_eq_getElem?_getD, List.getElem?_eq_none (by rw [h.rows]; omega)]; rfl
    rw [this]
    rfl
theorem mat_ext {n c : Nat} {M N : Mat} (hM : Shape n c M) (hN : Shape n c N) (h : ∀ i o, i < n → o < c → mg M i o = mg N i o) : M = N := by
  refine List.ext_getElem (by rw [hM.rows, hN.rows]) fun i h1 h2 => ?_
  have hi : i < n := by rw [← hM.rows]; exact h1
  have e1 : M[i]! = M[i] := getElem!_pos M i h1
  have e2 : N[i]! = N[i] := getElem!_pos N i h2
  have l1 := hM.cols i hi
  have l2 := hN.cols i hi
  rw [e1] at l1
  rw [e2] at l2
  refine List.ext_getElem (by rw [l1, l2]) fun o h3 h4 => ?_
  have := h i o hi (by rw [← l1]; exact h3)
  unfold mg at this
  rw [e1, e2, getElem!_pos _ o h3, getElem!_pos _ o h4] at this
  exact this
theorem mat_eq {n c : Nat} {M N : Mat} (hM : Shape n c M) (hN : Shape n c N) (h1 : LeM M N) (h2 : LeM N M) : M = N :=
  mat_ext hM hN fun i o _ _ => by
    cases h : mg M i o with
    | true => exact (h1 i o h).symm
    | false =>
      cases k : mg N i o with
      | false => rfl
      | true => rw [h2 i o k] at h; cases h
def setT (M : Mat) (i o : Nat) : Mat := M.set i ((M[i]!).set o true)
theorem setT_shape {n c : Nat} {M : Mat} (h : Shape n c M) {i o : Nat} (hi : i < n) : Shape n c (setT M i o) := by
  refine ⟨by simp [setT, h.rows], fun j hj => ?_⟩
  unfold setT
  rw [get_set _ _ _ _ (by rw [h.rows]; exact hj)]
  split
  · rename_i e; subst e; rw [List.length_set]; exact h.cols _ hi
  · exact h.cols j hj
theorem mg_setT {n c : Nat} {M : Mat} (h : Shape n c M) {i o j q : Nat} (hi : i < n) (ho : o < c) : mg (setT M i o) j q = if i = j ∧ o = q then true else mg M j q := by
  by_cases hjq : j < n ∧ q < c
  · unfold mg setT
    rw [get_set _ _ _ _ (by rw [h.rows]; exact hjq.1)]
    by_cases e : i = j
    · subst e
      rw [if_pos rfl]
      have hl := h.cols i hi
      rw [getElem!_pos _ q (by rw [List.length_set, hl]; exact hjq.2), List.getElem_set]
      by_cases e2 : o = q
      · simp [e2]
      · rw [if_neg e2, if_neg (by simp [e2]), getElem!_pos _ q (by rw [hl]; exact hjq.2)]
    · rw [if_neg e, if_neg (by simp [e])]
  · rw [mg_out (setT_shape h hi) hjq, mg_out h hjq, if_neg (by rintro ⟨rfl, rfl⟩; exact hjq ⟨hi, ho⟩)]
/-- A part of a pass: what it made of M is M'; was something new?  P: what the pass is to bring about; Q: what is known of M if nothing was new. -/
structure Tr (n c : Nat) (P : Mat → Prop) (Q : Prop) (M M' : Mat) (b : Bool) : Prop where
  sh : Shape n c M'
  le : LeM M M'
  least : ∀ N, LeM M N → P N → LeM M' N
  no : b = false → M' = M ∧ Q
  yes : b = true → M' ≠ M
section
variable {n c : Nat} {P P2 : Mat → Prop} {Q Q' : Prop} {M M1 M2 : Mat} {b b2 : Bool}
theorem Tr.start (hs : Shape n c M) (hq : Q) : Tr n c P Q M M false := ⟨hs, LeM.refl _, fun _ h _ => h, fun _ => ⟨rfl, hq⟩, nofun⟩
theorem Tr.weak (h : Tr n c P Q M M1 b) (hQ : b = false → M1 = M → Q → Q') : Tr n c P Q' M M1 b := ⟨h.sh, h.le, h.least, fun e => ⟨(h.no e).1, hQ e (h.no e).1 (h.no e).2⟩, h.yes⟩
theorem Tr.step (hM : Shape n c M) (h : Tr n c P Q M M1 b) (k : Tr n c P2 (P2 M1) M1 M2 b2) (hP : ∀ N, LeM M1 N → P N → P2 N) (hQ : Q → P2 M → Q') : Tr n c P Q' M M2 (b || b2) := by
  refine ⟨k.sh, h.le.trans k.le, fun N hN hp => ?_, fun e => ?_, fun e he => ?_⟩
  · have h1 := h.least N hN hp
    exact k.least N h1 (hP N h1 hp)
  · simp only [Bool.or_eq_false_iff] at e
    obtain ⟨e1, q1⟩ := h.no e.1
    obtain ⟨e2, q2⟩ := k.no e.2
    subst e1
    exact ⟨e2, hQ q1 q2⟩
  · subst he
    have e1 : M1 = M2 := mat_eq h.sh hM k.le h.le
    subst e1
    cases hb : b with
    | true => exact h.yes hb rfl
    | false => rw [hb, Bool.false_or] at e; exact k.yes e rfl
theorem Tr.one (hM : Shape n c M) {i o : Nat} (hi : i < n) (ho : o < c) (hno : mg M i o = false) (hP : ∀ N, LeM M N → P N → mg N i o = true) : Tr n c P Q M (setT M i o) true := by
  refine ⟨setT_shape hM hi, fun j q h => by rw [mg_setT hM hi ho]; split <;> first | rfl | exact h, fun N hN hp j q h => ?_, nofun, fun _ e => ?_⟩
  · rw [mg_setT hM hi ho] at h
    split at h
    · rename_i e
      obtain ⟨rfl, rfl⟩ := e
      exact hP N hN hp
    · exact hN j q h
  · have := mg_setT hM hi ho (j := i) (q := o)
    rw [e, if_pos ⟨rfl, rfl⟩, hno] at this
    cases this
/-- What it brings about may be told otherwise. -/
theorem Tr.told (h : Tr n c P Q M M1 b) (hP : ∀ N, LeM M N → P2 N → P N) (hQ : Q → Q') : Tr n c P2 Q' M M1 b := ⟨h.sh, h.le, fun N hN hp => h.least N hN (hP N hN hp), fun e => ⟨(h.no e).1, hQ (h.no e).2⟩, h.yes⟩
/-- A whole pass: nothing was new just if all is kept. -/
theorem Tr.iff (h : Tr n c P (P M) M M1 b) (hM : Shape n c M) : b = false ↔ P M := by
  constructor
  · exact fun e => (h.no e).2
  · intro hp
    cases hb : b with
    | false => rfl
    | true => exact absurd (mat_eq h.sh hM (h.least M (LeM.refl _) hp) h.le) (h.yes hb)
end
/-! ### what a constraint asks -/
def flowP (t f : Int) (N : Mat) : Prop := 0 ≤ t → 0 ≤ f → ∀ o, mg N f.toNat o = true → mg N t.toNat o = true
def objP (c : Con) (x : Cell) (N : Mat) : Prop :=
  (c.k = 3 → x.fn = false → flowP c.a x.v N) ∧ (c.k = 4 → x.fn = false → flowP x.v c.b N) ∧
  (c.k = 5 → x.fn = true → flowP c.a x.v N ∧ ∀ k, k < x.args.length → k < c.args.length → flowP x.args[k]! c.args[k]! N)
def srcOf (c : Con) : Nat := (if c.k = 4 then c.a else c.b).toNat
def ruleP (xs : List Cell) (c : Con) (N : Mat) : Prop :=
  (c.k = 1 → mg N c.a.toNat c.b.toNat = true) ∧ (c.k = 2 → flowP c.a c.b N) ∧ (¬ c.k = 1 → ¬ c.k = 2 → ∀ o, o < xs.length → mg N (srcOf c) o = true → objP c xs[o]! N)
def ClosedM (s : Sys) (N : Mat) : Prop := ∀ i, i < s.cons.length → ruleP s.cells s.cons[i]! N
def zeroM (n c : Nat) : Mat := List.replicate n (List.replicate c false)
theorem zeroM_shape (n c : Nat) : Shape n c (zeroM n c) := ⟨by simp [zeroM], fun i hi => by rw [getElem!_pos _ i (by simpa [zeroM] using hi)]; simp [zeroM]⟩
theorem zeroM_le (n c : Nat) (N : Mat) : LeM (zeroM n c) N := fun i o h => by
  have : mg (zeroM n c) i o = false := by
    by_cases hio : i < n ∧ o < c
    · unfold mg zeroM
      rw [getElem!_pos _ i (by simpa using hio.1), List.getElem_replicate, getElem!_pos _ o (by simpa using hio.2), List.getElem_replicate]
    · exact mg_out (zeroM_shape n c) hio
  rw [this] at h
  cases h
/-- The least map that keeps all constraints. -/
structure IsLeast (s : Sys) (M : Mat) : Prop where
  sh : Shape s.vars.toNat s.cells.length M
  closed : ClosedM s M
  least : ∀ N, ClosedM s N → LeM M N
theorem IsLeast.unique {s : Sys} {M N : Mat} (h : IsLeast s M) (k : IsLeast s N) : M = N := mat_eq h.sh k.sh (h.least N k.closed) (k.least M h.closed)
/-- How many truths there are. -/
def cnt (M : Mat) : Nat := (M.map fun r => r.countP id).sum
theorem cnt_le {n c : Nat} {M : Mat} (h : Shape n c M) : cnt M ≤ n * c := by
  have : ∀ l : Mat, (∀ r ∈ l, r.length = c) → (l.map fun r => r.countP id).sum ≤ l.length * c := by
    intro l
    induction l with
    | nil => simp
    | cons r l ih =>
      intro hl
      have h1 := ih fun x hx => hl x (by simp [hx])
      have h2 := List.countP_le_length (p := id) (l := r)
      rw [hl r (by simp)] at h2
      simp only [List.map_cons, List.sum_cons, List.length_cons, Nat.succ_mul]
      omega
  have h1 := this M fun r hr => by
    obtain ⟨i, hi, e⟩ := List.getElem_of_mem hr
    have := h.cols i (by rw [← h.rows]; exact hi)
    rwa [getElem!_pos M i hi, e] at this
  rw [h.rows] at h1
  exact h1
theorem cnt_lt {n c : Nat} {M N : Mat} (hM : Shape n c M) (hN : Shape n c N) (h : LeM M N) (hne : N ≠ M) : cnt M < cnt N := by
  have row : ∀ (a b : List Bool), a.length = b.length → (∀ o : Nat, a[o]! = true → b[o]! = true) → a.countP id ≤ b.countP id ∧ (a ≠ b → a.countP id < b.countP id) := by
    intro a
    induction a with
    | nil => intro b hb _; have : b = [] := List.eq_nil_of_length_eq_zero hb.symm; subst this; simp
    | cons x a ih =>
      intro b hb hle
      cases b with
      | nil => simp at hb
      | cons y b =>
        have h1 := ih b (by simpa using hb) fun o ho => by simpa using hle (o + 1) (by simpa using ho)
        have h0 : x = true → y = true := by simpa using hle 0
        refine ⟨?_, fun hne => ?_⟩
        · cases x <;> cases y <;> simp_all <;> omega
        · by_cases e : a = b
          · subst e
            cases x <;> cases y <;> simp_all
          · have := h1.2 e
            cases x <;> cases y <;> simp_all <;> omega
  have mat : ∀ (k : Mat) (l : Mat), k.length = l.length → (∀ i, i < k.length → k[i]!.length = l[i]!.length) → (∀ i o, mg k i o = true → mg l i o = true) → cnt k ≤ cnt l ∧ (k ≠ l → cnt k < cnt l) := by
    intro k
    induction k with
    | nil => intro l hl _ _; have : l = [] := List.eq_nil_of_length_eq_zero hl.symm; subst this; simp
    | cons x k ih =>
      intro l hl hc hle
      cases l with
      | nil => simp at hl
      | cons y l =>
        have h1 := ih l (by simpa using hl) (fun i hi => by simpa using hc (i + 1) (by simpa using hi)) fun i o ho => by simpa [mg] using hle (i + 1) o (by simpa [mg] using ho)
        have h0 := row x y (by simpa using hc 0 (by simp)) fun o ho => by simpa [mg] using hle 0 o (by simpa [mg] using ho)
        have e1 : cnt (x :: k) = x.countP id + cnt k := by simp [cnt]
        have e2 : cnt (y :: l) = y.countP id + cnt l := by simp [cnt]
        rw [e1, e2]
        refine ⟨by omega, fun hne => ?_⟩
        by_cases e : x = y
        · subst e
          have := h1.2 (fun e => hne (by rw [e]))
          omega
        · have := h0.2 e
          omega
  exact (mat M N (by rw [hM.rows, hN.rows]) (fun i hi => by rw [hM.rows] at hi; rw [hM.cols i hi, hN.cols i hi]) h).2 fun e => hne e.symm
end Go.Proofs.Ytomldckplkecbaa
