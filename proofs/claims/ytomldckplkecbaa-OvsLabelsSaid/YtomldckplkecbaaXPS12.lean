/- Sources: what comes into each variable, step by step: plain. -/
import Derived.Test.YtomldckplkecbaaXRMB
import Derived.Test.YtomldckplkecbaaXKF16
import Derived.Test.YtomldckplkecbaaY16
namespace Go.Proofs.Ytomldckplkecbaa
set_option linter.unusedVariables false
set_option linter.unusedSimpArgs false
/-- By a copy something of u comes into v. -/
def CpE (s : Sys) (v u : Nat) : Prop := ∃ c ∈ s.cons, c.k = 2 ∧ c.a = (v : Int) ∧ c.b = (u : Int)
/-- What comes into v by itself. -/
def SeedC (n c : Nat) (s : Sys) (v k : Nat) : Prop := ∃ x ∈ s.cons, x.a = (v : Int) ∧ ((x.k = 1 ∧ x.b = (k : Int)) ∨ (x.k = 3 ∧ (k : Int) = c + n + x.b))
def Seed (n c : Nat) (s : Sys) (v k : Nat) : Prop := SeedC n c s v k ∨ (k = c + v ∧ looseAt s v = true)
def Src (n c : Nat) (s : Sys) (v k : Nat) : Prop := ∃ u, Rch (CpE s) v u ∧ Seed n c s u k
theorem Src.seed {n c : Nat} {s : Sys} {v k : Nat} (h : Seed n c s v k) : Src n c s v k := ⟨v, .refl v, h⟩
theorem Src.copy {n c : Nat} {s : Sys} {v u k : Nat} (h : CpE s v u) (h2 : Src n c s u k) : Src n c s v k := by
  obtain ⟨x, h3, h4⟩ := h2
  exact ⟨x, .step h h3, h4⟩
/-- What one constraint asks of a round from M on. -/
def RdC (n c : Nat) (x : Con) (M M' : Mat) : Prop :=
  (x.k = 1 → mg M' x.a.toNat x.b.toNat = true) ∧ (x.k = 3 → mg M' x.a.toNat (c + n + x.b.toNat) = true) ∧ (x.k = 2 → ∀ k, mg M x.b.toNat k = true → mg M' x.a.toNat k = true)
def RdK (n c : Nat) (s : Sys) (M M' : Mat) (j : Nat) : Prop := ∀ i, i < j → RdC n c s.cons[i]! M M'
theorem RdC.up {n c : Nat} {x : Con} {M M1 M2 : Mat} (h : RdC n c x M M1) (hle : LeM M1 M2) : RdC n c x M M2 :=
  ⟨fun e => hle _ _ (h.1 e), fun e => hle _ _ (h.2.1 e), fun e k hk => hle _ _ (h.2.2 e k hk)⟩
theorem RdK.next {n c : Nat} {s : Sys} {M M1 M2 : Mat} {j : Nat} (h : RdK n c s M M1 j) (hle : LeM M1 M2) (hj : RdC n c s.cons[j]! M M2) : RdK n c s M M2 (j + 1) := fun i hi => by
  by_cases e : i = j
  · subst e
    exact hj
  · exact (h i (by omega)).up hle
def SndS (n c : Nat) (s : Sys) (M : Mat) : Prop := ∀ v k, mg M v k = true → Src n c s v k
/-- After r rounds: what comes by short ways. -/
def FarS (n c : Nat) (s : Sys) (M : Mat) (r : Nat) : Prop := ∀ p v u k, u < n → PathL (CpE s) p v u → Seed n c s u k → p.length ≤ r → mg M v k = true
theorem FarS.next {n c : Nat} {s : Sys} {M M' : Mat} {r : Nat} (h : FarS n c s M r) (hb : ∀ x ∈ s.cons, 0 ≤ x.b) (hl : ∀ v : Nat, v < n → looseAt s v = true → mg M v (c + v) = true) (hle : LeM M M') (hr : RdK n c s M M' s.cons.length) : FarS n c s M' (r + 1) := by
  have at_ : ∀ x ∈ s.cons, RdC n c x M M' := fun x hx => by
    obtain ⟨i, hi, rfl⟩ := List.getElem_of_mem hx
    have := hr i hi
    rwa [getElem!_pos _ i hi] at this
  intro p v u k hu hp hs hlen
  cases hp with
  | one =>
    rcases hs with ⟨x, hx, ha, hk⟩ | ⟨rfl, hlo⟩
    · have hc := at_ x hx
      rcases hk with ⟨h1, h2⟩ | ⟨h1, h2⟩
      · have := hc.1 h1
        rw [ha, h2] at this
        simpa using this
      · have := hc.2.1 h1
        rw [ha] at this
        have := hb x hx
        have e : c + n + x.b.toNat = k := by omega
        rename_i h3
        rw [e] at h3
        simpa using h3
    · exact hle _ _ (hl v hu hlo)
  | @cons _ w _ q e k2 =>
    obtain ⟨x, hx, h1, h2, h3⟩ := e
    have := (at_ x hx).2.2 h1 k
    rw [h2, h3] at this
    simp only [Int.toNat_natCast] at this
    exact this (h q w u k hu k2 hs (by simpa using hlen))
theorem FarS.iff {n c : Nat} {s : Sys} {M : Mat} (hE : ∀ v u, CpE s v u → v < n ∧ u < n) (h : FarS n c s M (n + 1)) (hs : SndS n c s M) {v k : Nat} (hv : v < n) : mg M v k = true ↔ Src n c s v k := by
  refine ⟨hs v k, fun ⟨u, h1, h2⟩ => ?_⟩
  obtain ⟨p, h3, h4⟩ := h1.path
  have nd : ∀ {p : List Nat} {a b : Nat}, PathL (CpE s) p a b → a < n → ∀ x ∈ p, x < n := by
    intro p a b hp
    induction hp with
    | one v => intro ha x hx; simp at hx; subst hx; exact ha
    | cons e _ ih =>
      intro ha x hx
      rcases List.mem_cons.1 hx with rfl | hx
      · exact ha
      · exact ih (hE _ _ e).2 x hx
  have h5 := nodup_lenK h4 (nd h3 hv)
  exact h p v u k (h1.closed (P := fun x => x < n) (fun a b _ e => (hE a b e).2) hv) h3 h2 (by omega)
end Go.Proofs.Ytomldckplkecbaa
