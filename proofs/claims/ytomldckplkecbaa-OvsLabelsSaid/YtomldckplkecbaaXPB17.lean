/- A system's graph tells its sources: plain. -/
import Derived.Test.YtomldckplkecbaaXPA17
namespace Go.Proofs.Ytomldckplkecbaa
set_option linter.unusedVariables false
set_option linter.unusedSimpArgs false
section
variable {n : Nat} {xs : List Cell} {ys : List Con}
abbrev gInto (n : Nat) (xs : List Cell) (ys : List Con) : List (List Int) := (gfold ⟨n, xs, ys⟩).1
abbrev gBases (n : Nat) (xs : List Cell) (ys : List Con) : List (List Int) := (gfold ⟨n, xs, ys⟩).2
abbrev gLoose (n : Nat) (xs : List Cell) (ys : List Con) : List Bool := looseB ⟨n, xs, ys⟩ ++ List.replicate n true
abbrev gl (n : Nat) (xs : List Cell) (ys : List Con) (kn : List (List Nat)) (of : Nat → Nat) (v : Nat) : Int := lv n (gInto n xs ys) (gBases n xs ys) (gLoose n xs ys) kn of v
theorem right_cons5 (hr : rightB ⟨n, xs, ys⟩ = true) : ∀ c ∈ ys, 0 ≤ c.b ∧ (¬ c.k = 5 → 0 ≤ c.a ∧ c.a < n) ∧ (c.k = 1 → c.b < (xs.length : Int)) ∧ (¬ c.k = 1 → c.b < n) := by
  simp only [rightB, bigOk, Bool.and_eq_true, decide_eq_true_eq, List.all_eq_true] at hr
  intro c hc
  have := hr.2 c hc
  simp only [conOk, inR, Bool.and_eq_true, decide_eq_true_eq] at this
  have ha := this.1.1.1.1.2
  have hb := this.1.1.1.2
  refine ⟨by omega, fun h5 => by rw [if_neg h5] at ha; omega, fun h1 => by rw [if_pos h1] at hb; omega, fun h1 => by rw [if_neg h1] at hb; omega⟩
theorem rep_nil {m v : Nat} (hv : v < m) : (List.replicate m ([] : List Int))[v]! = [] := by
  rw [getElem!_pos _ v (by simpa using hv)]
  simp
theorem into_mem (hr : rightB ⟨n, xs, ys⟩ = true) {v : Nat} (hv : v < 2 * n) (y : Int) : y ∈ (gInto n xs ys)[v]! ↔ ∃ c ∈ ys, c.a = (v : Int) ∧ ((c.k = 2 ∧ y = c.b) ∨ (c.k = 3 ∧ y = n + c.b)) := by
  have h := (gfold_mem (n := n) (v := v) ys (List.replicate (2 * (n : Int).toNat) [], List.replicate (n : Int).toNat []) (fun c hc h5 => ((right_cons5 hr c hc).2.1 h5).1)).1 (by simpa using hv) y
  rw [show ((List.replicate (2 * (n : Int).toNat) ([] : List Int), List.replicate (n : Int).toNat ([] : List Int)).1)[v]! = [] from rep_nil (by simpa using hv)] at h
  refine Iff.trans h ⟨fun q => q.elim (fun q => by cases q) id, .inr⟩
theorem bases_mem (hr : rightB ⟨n, xs, ys⟩ = true) {v : Nat} (hv : v < n) (y : Int) : y ∈ (gBases n xs ys)[v]! ↔ ∃ c ∈ ys, c.a = (v : Int) ∧ c.k = 1 ∧ y = c.b := by
  have h := (gfold_mem (n := n) (v := v) ys (List.replicate (2 * (n : Int).toNat) [], List.replicate (n : Int).toNat []) (fun c hc h5 => ((right_cons5 hr c hc).2.1 h5).1)).2 (by simpa using hv) y
  rw [show ((List.replicate (2 * (n : Int).toNat) ([] : List Int), List.replicate (n : Int).toNat ([] : List Int)).2)[v]! = [] from rep_nil (by simpa using hv)] at h
  refine Iff.trans h ⟨fun q => q.elim (fun q => by cases q) id, .inr⟩
theorem loose_at {v : Nat} (hv : v < n) : (gLoose n xs ys)[v]! = looseAt ⟨n, xs, ys⟩ v := by
  have hl : (looseB ⟨n, xs, ys⟩).length = n := by rw [looseB_len]; simp
  rw [getElem!_pos _ v (by simp [hl]; omega), List.getElem_append_left (by omega), ← getElem!_pos _ v (by omega)]
  exact looseB_get ⟨n, xs, ys⟩ (by simpa using hv)
theorem loose_ref {v : Nat} (hv : n ≤ v) (hv2 : v < 2 * n) : (gLoose n xs ys)[v]! = true := by
  have hl : (looseB ⟨n, xs, ys⟩).length = n := by rw [looseB_len]; simp
  rw [getElem!_pos _ v (by simp [hl]; omega), List.getElem_append_right (by omega)]
  simp
theorem gs_src (hr : rightB ⟨n, xs, ys⟩ = true) {v k : Nat} (hv : v < n) : GS n xs.length (gInto n xs ys) (gBases n xs ys) (gLoose n xs ys) v k ↔ Src n xs.length ⟨n, xs, ys⟩ v k := by
  have hG := gok hr
  have hni := hG.ni
  have hcf := right_cons5 hr
  constructor
  · rintro ⟨u, h1, h2⟩
    have main : ∀ a b, Rg (gInto n xs ys) a b → a < n → ((b < n ∧ (k : Int) ∈ (gBases n xs ys)[b]!) ∨ ((gLoose n xs ys)[b]! = true ∧ k = xs.length + b)) → Src n xs.length ⟨n, xs, ys⟩ a k := by
      intro a b h
      induction h with
      | refl a =>
        intro ha hs
        rcases hs with ⟨_, h3⟩ | ⟨h3, h4⟩
        · obtain ⟨c, hc, h5, h6, h7⟩ := (bases_mem hr ha _).1 h3
          exact .seed (.inl ⟨c, hc, h5, .inl ⟨h6, h7.symm⟩⟩)
        · rw [loose_at ha] at h3
          exact .seed (.inr ⟨h4, h3⟩)
      | @step a w b e r ih =>
        intro ha hs
        obtain ⟨j, e1, e2, e3, e4⟩ := e
        have hm : (w : Int) ∈ (gInto n xs ys)[a]! := by rw [← e4, getElem!_pos _ j e3]; exact List.getElem_mem e3
        obtain ⟨c, hc, h5, h6⟩ := (into_mem hr (by omega) _).1 hm
        rcases h6 with ⟨k2, h7⟩ | ⟨k3, h7⟩
        · have hw : w < n := by have := (hcf c hc).2.2.2 (by omega); omega
          exact .copy ⟨c, hc, k2, h5, h7.symm⟩ (ih hw hs)
        · have hw : n ≤ w ∧ w < 2 * n := by have := hcf c hc; have := this.2.2.2 (by omega); omega
          have hbw : b = w := by
            cases r with
            | refl => rfl
            | step e r =>
              obtain ⟨j, f1, f2, f3, f4⟩ := e
              exfalso
              have hm2 : ((gInto n xs ys)[w]!)[j] ∈ (gInto n xs ys)[w]! := List.getElem_mem f3
              obtain ⟨c2, hc2, h8, h9⟩ := (into_mem hr (by omega) _).1 hm2
              have := (hcf c2 hc2).2.1 (by omega)
              omega
          subst hbw
          rcases hs with ⟨h8, _⟩ | ⟨h8, h9⟩
          · omega
          · exact .seed (.inl ⟨c, hc, h5, .inr ⟨k3, by omega⟩⟩)
    exact main v u h1 hv h2
  · rintro ⟨u, h1, h2⟩
    have hE : ∀ a b, CpE ⟨n, xs, ys⟩ a b → Ed (gInto n xs ys) a b := fun a b ⟨c, hc, k2, h3, h4⟩ => by
      have := (hcf c hc).2.1 (by omega)
      have hb := (hcf c hc).2.2.2 (by omega)
      have hm : (b : Int) ∈ (gInto n xs ys)[a]! := (into_mem hr (by omega) _).2 ⟨c, hc, h3, .inl ⟨k2, h4.symm⟩⟩
      have := ed_of hG.ri (w := a) (by omega) hm
      simpa using this
    have hrg : ∀ a b, Rch (CpE ⟨n, xs, ys⟩) a b → a < n → Rg (gInto n xs ys) a b ∧ b < n := by
      intro a b h
      induction h with
      | refl a => exact fun ha => ⟨.refl a, ha⟩
      | @step a w b e _ ih =>
        intro ha
        have hw : w < n := by
          obtain ⟨c, hc, k2, h3, h4⟩ := e
          have := (hcf c hc).2.2.2 (by omega)
          omega
        exact ⟨.step (hE _ _ e) (ih hw).1, (ih hw).2⟩
    obtain ⟨h3, hu⟩ := hrg v u h1 hv
    rcases h2 with ⟨c, hc, h5, h6⟩ | ⟨h5, h6⟩
    · rcases h6 with ⟨k1, h7⟩ | ⟨k3, h7⟩
      · exact ⟨u, h3, .inl ⟨hu, (bases_mem hr hu _).2 ⟨c, hc, h5, k1, h7.symm⟩⟩⟩
      · have hcc := hcf c hc
        have hb := hcc.2.2.2 (by omega)
        have hm : (n : Int) + c.b ∈ (gInto n xs ys)[u]! := (into_mem hr (by omega) _).2 ⟨c, hc, h5, .inr ⟨k3, rfl⟩⟩
        have he := ed_of hG.ri (w := u) (by omega) hm
        refine ⟨_, h3.trans (.one he), .inr ⟨loose_ref (by omega) (by omega), by omega⟩⟩
    · exact ⟨u, h3, .inr ⟨by rw [loose_at hu]; exact h6, h5⟩⟩
end
end Go.Proofs.Ytomldckplkecbaa
