/- Knots: from which nodes each is come to, by rounds. -/
import Derived.Test.YtomldckplkecbaaY10
import Derived.Test.YtomldckplkecbaaXPM
namespace Go.Proofs.Ytomldckplkecbaa
set_option linter.unusedVariables false
set_option linter.unusedSimpArgs false
/-- A path and its nodes. -/
inductive PathL (E : Nat → Nat → Prop) : List Nat → Nat → Nat → Prop
  | one (v : Nat) : PathL E [v] v v
  | cons {v w u : Nat} {p : List Nat} : E v w → PathL E p w u → PathL E (v :: p) v u
theorem PathL.cut {E : Nat → Nat → Prop} {p : List Nat} {a u : Nat} (h : PathL E p a u) : ∀ {v : Nat}, v ∈ p → ∃ q, PathL E q v u ∧ q.Sublist p := by
  induction h with
  | one x => intro v hv; simp at hv; subst hv; exact ⟨[v], .one v, List.Sublist.refl _⟩
  | @cons b w u p e k ih =>
    intro v hv
    rcases List.mem_cons.1 hv with rfl | hv
    · exact ⟨v :: p, .cons e k, List.Sublist.refl _⟩
    · obtain ⟨q, h1, h2⟩ := ih hv
      exact ⟨q, h1, h2.cons _⟩
theorem Rch.path {E : Nat → Nat → Prop} {a b : Nat} (h : Rch E a b) : ∃ p, PathL E p a b ∧ p.Nodup := by
  induction h with
  | refl v => exact ⟨[v], .one v, by simp⟩
  | @step v w u e _ ih =>
    obtain ⟨p, h1, h2⟩ := ih
    by_cases hv : v ∈ p
    · obtain ⟨q, h3, h4⟩ := h1.cut hv
      exact ⟨q, h3, h2.sublist h4⟩
    · exact ⟨v :: p, .cons e h1, List.nodup_cons.2 ⟨hv, h2⟩⟩
theorem Ed.lt {g : List (List Int)} {v w : Nat} (h : Ed g v w) : v < g.length ∧ w < g.length := let ⟨_, h⟩ := h; ⟨h.1, h.2.1⟩
theorem PathL.nodes {g : List (List Int)} {p : List Nat} {a b : Nat} (h : PathL (Ed g) p a b) : b < g.length → ∀ x ∈ p, x < g.length := by
  induction h with
  | one v => intro hb x hx; simp at hx; subst hx; exact hb
  | cons e _ ih =>
    intro hb x hx
    rcases List.mem_cons.1 hx with rfl | hx
    · exact e.lt.1
    · exact ih hb x hx
/-- What a matrix tells is true. -/
def Snd (g : List (List Int)) (M : Mat) : Prop := ∀ i o, mg M i o = true → Rg g i o
/-- What a round does: all edges' nodes of M come into M'. -/
def NxK (g : List (List Int)) (M M' : Mat) (v k : Nat) : Prop := ∀ j w, j < k → EdK g v j w → ∀ o, mg M w o = true → mg M' v o = true
def Rnd (g : List (List Int)) (M M' : Mat) (m : Nat) : Prop := ∀ v, v < m → ∀ j w, EdK g v j w → ∀ o, mg M w o = true → mg M' v o = true
/-- After i rounds all short paths are told. -/
def Far (g : List (List Int)) (M : Mat) (i : Nat) : Prop := ∀ p a b, PathL (Ed g) p a b → b < g.length → p.length ≤ i + 1 → mg M a b = true
theorem Far.next {g : List (List Int)} {M M' : Mat} {i : Nat} (h : Far g M i) (hle : LeM M M') (hr : Rnd g M M' g.length) : Far g M' (i + 1) := by
  intro p a b hp hb hl
  cases hp with
  | one v => exact hle _ _ (h [a] a a (.one a) hb (by simp))
  | @cons _ w _ q e k =>
    have h1 := h q w b k hb (by simpa using hl)
    obtain ⟨j, hj⟩ := e
    exact hr a hj.1 j w hj b h1
theorem Far.iff {g : List (List Int)} {M : Mat} (h : Far g M g.length) (hs : Snd g M) {v u : Nat} (hv : v < g.length) (hu : u < g.length) : mg M v u = true ↔ Rg g v u := by
  refine ⟨hs v u, fun hr => ?_⟩
  obtain ⟨p, h1, h2⟩ := hr.path
  have h3 := nodup_lenK h2 (h1.nodes hu)
  exact h p v u h1 hu (by omega)
theorem LeM.nxk {g : List (List Int)} {M M1 M2 : Mat} {v k : Nat} (h : NxK g M M1 v k) (hle : LeM M1 M2) : NxK g M M2 v k := fun j w hj he o ho => hle _ _ (h j w hj he o ho)
theorem LeM.rnd {g : List (List Int)} {M M1 M2 : Mat} {m : Nat} (h : Rnd g M M1 m) (hle : LeM M1 M2) : Rnd g M M2 m := fun v hv j w he o ho => hle _ _ (h v hv j w he o ho)
/-- A place is set, or stays. -/
def setM (M : Mat) (i o : Nat) (b : Bool) : Mat := M.set i ((M[i]!).set o b)
theorem setM_true (M : Mat) (i o : Nat) : setM M i o true = setT M i o := rfl
theorem setM_false {n c : Nat} {M : Mat} (h : Shape n c M) {i o : Nat} (hi : i < n) (ho : o < c) (hb : mg M i o = false) : setM M i o false = M := by
  unfold setM
  have h1 : (M[i]!).set o false = M[i]! := by
    have hl := h.cols i hi
    have : (M[i]!)[o]! = false := hb
    rw [getElem!_pos _ o (by omega)] at this
    conv => lhs; rw [← this]
    exact List.set_getElem_self _
  rw [h1, getElem!_pos M i (by rw [h.rows]; exact hi)]
  exact List.set_getElem_self _
end Go.Proofs.Ytomldckplkecbaa
