/- The walk of SolveGuards. -/
import Derived.Test.YtkjbkalakafnlaaDoorXLS20
namespace Go.Proofs.YtkjbkalakafnlaaDoor
open Go.RowKit
set_option linter.unusedVariables false
set_option linter.unusedSimpArgs false
set_option maxRecDepth 100000
theorem own_blk {w : World} {g base size n : Nat} {cs : List Value} {e : TypeId} (hb : w.heap[g]? = some (.cells cs.toArray e (0, 0))) (hg : base ≤ g) (hm : n ≤ maxLen) (hs : cs.length = n * size) : w.ownsRow base e size (.slice (some ⟨g, 0, none⟩) n n) n cs :=
  ⟨by simpa using hs, .inr ⟨g, n, cs.toArray, rfl, hg, hb, Nat.le_refl _, hm, by simpa using hs, by simp [List.take_of_length_le, hs]⟩⟩
def gcells (fn : Bool) : List Cell := [⟨fn, 3, []⟩, ⟨false, 5, []⟩]
def gcons (c : Con) : List Con := [⟨1, 0, 0, []⟩, ⟨1, 1, 1, []⟩, ⟨1, 3, 1, []⟩, c]
theorem gels (w : World) (k a b : Int) (hk : 0 ≤ k ∧ k ≤ 255) (ha : -9223372036854775808 ≤ a ∧ a ≤ 9223372036854775807) (hb : -9223372036854775808 ≤ b ∧ b ≤ 9223372036854775807) :
    Elems 4 dCon w [.int .u8 1, .int .i64 0, .int .i64 0, .slice none 0 0, .int .u8 1, .int .i64 1, .int .i64 1, .slice none 0 0, .int .u8 1, .int .i64 3, .int .i64 1, .slice none 0 0, .int .u8 k, .int .i64 a, .int .i64 b, .slice none 0 0] (gcons ⟨k, a, b, []⟩) := by
  have h1 : Elems 4 dCon w [.int .u8 1, .int .i64 0, .int .i64 0, .slice none 0 0] [⟨1, 0, 0, []⟩] := Elems.one rfl (dCon_nil _ 1 0 0 (by decide) (by decide) (by decide))
  have h2 := h1.push (x := ⟨1, 1, 1, []⟩) (cs := [.int .u8 1, .int .i64 1, .int .i64 1, .slice none 0 0]) rfl (dCon_nil _ 1 1 1 (by decide) (by decide) (by decide))
  have h3 := h2.push (x := ⟨1, 3, 1, []⟩) (cs := [.int .u8 1, .int .i64 3, .int .i64 1, .slice none 0 0]) rfl (dCon_nil _ 1 3 1 (by decide) (by decide) (by decide))
  exact h3.push (x := ⟨k, a, b, []⟩) (cs := [.int .u8 k, .int .i64 a, .int .i64 b, .slice none 0 0]) rfl (dCon_nil _ k a b hk ha hb)
def gmat (e2 e3 : Bool) : Mat := [[true, false], [false, true], [false, e2], [e3, true], [false, false], [false, false]]
theorem gleast {fn : Bool} {c : Con} {e2 e3 : Bool} (hr : ruleP (gcells fn) c (gmat e2 e3)) (h2 : e2 = true → ∀ N, ruleP (gcells fn) c N → mg N 0 0 = true → mg N 3 1 = true → mg N 2 1 = true)
    (h3 : e3 = true → ∀ N, ruleP (gcells fn) c N → mg N 0 0 = true → mg N 3 0 = true) : IsLeast ⟨((6 : Nat) : Int), gcells fn, gcons c⟩ (gmat e2 e3) := by
  refine ⟨⟨rfl, fun i hi => ?_⟩, fun i hi => ?_, fun N hN i o h => ?_⟩
  · have hi : i < 6 := hi
    match i with
    | 0 => rfl
    | 1 => rfl
    | 2 => rfl
    | 3 => rfl
    | 4 => rfl
    | 5 => rfl
    | i + 6 => omega
  · have hi : i < 4 := hi
    match i with
    | 0 => exact ⟨fun _ => rfl, fun h => absurd h (show ¬ (1 : Int) = 2 by decide), fun h => absurd rfl h⟩
    | 1 => exact ⟨fun _ => rfl, fun h => absurd h (show ¬ (1 : Int) = 2 by decide), fun h => absurd rfl h⟩
    | 2 => exact ⟨fun _ => by cases e3 <;> rfl, fun h => absurd h (show ¬ (1 : Int) = 2 by decide), fun h => absurd rfl h⟩
    | 3 => exact hr
    | i + 4 => omega
  · have n0 : mg N 0 0 = true := (hN 0 (show 0 < 4 by decide)).1 rfl
    have n1 : mg N 1 1 = true := (hN 1 (show 1 < 4 by decide)).1 rfl
    have n3 : mg N 3 1 = true := (hN 2 (show 2 < 4 by decide)).1 rfl
    have nc : ruleP (gcells fn) c N := hN 3 (show 3 < 4 by decide)
    match i, o with
    | 0, 0 => exact n0
    | 1, 1 => exact n1
    | 2, 1 => exact h2 h N nc n0 n3
    | 3, 0 => exact h3 h N nc n0
    | 3, 1 => exact n3
    | 0, o + 1 => cases o <;> cases h
    | 1, 0 => cases h
    | 1, o + 2 => cases h
    | 2, 0 => cases h
    | 2, o + 2 => cases h
    | 3, o + 2 => cases h
    | 4, 0 => cases h
    | 4, 1 => cases h
    | 4, o + 2 => cases h
    | 5, 0 => cases h
    | 5, 1 => cases h
    | 5, o + 2 => cases h
    | i + 6, o => cases h
theorem fl23 : flowP 2 3 (gmat true false) := fun _ _ o h => by
  match o with
  | 0 => cases h
  | 1 => rfl
  | o + 2 => cases h
theorem fl30 : flowP 3 0 (gmat false true) := fun _ _ o h => by
  match o with
  | 0 => rfl
  | 1 => cases h
  | o + 2 => cases h
theorem gobj {fn : Bool} {c : Con} {e2 e3 : Bool} (hc : ¬ c.k = 1) (hd : ¬ c.k = 2) (hs : srcOf c = 0) (h : objP c ⟨fn, 3, []⟩ (gmat e2 e3)) : ruleP (gcells fn) c (gmat e2 e3) :=
  ⟨fun e => absurd e hc, fun e => absurd e hd, fun _ _ o ho hm => by
    rw [hs] at hm
    have ho : o < 2 := ho
    match o with
    | 0 => exact h
    | 1 => cases hm
    | o + 2 => omega⟩
theorem gl3false : IsLeast ⟨((6 : Nat) : Int), gcells false, gcons ⟨3, 2, 0, []⟩⟩ (gmat true false) :=
  gleast (gobj (show ¬ (3 : Int) = 1 by decide) (show ¬ (3 : Int) = 2 by decide) rfl ⟨(fun _ _ => fl23), (fun e => absurd e (show ¬ (3 : Int) = 4 by decide)), (fun e => absurd e (show ¬ (3 : Int) = 5 by decide))⟩) (fun e N hr n0 n3 => (hr.2.2 (show ¬ (3 : Int) = 1 by decide) (show ¬ (3 : Int) = 2 by decide) 0 (show 0 < 2 by decide) n0).1 rfl rfl (by decide) (by decide) 1 n3) (fun e => by cases e)
theorem gl3true : IsLeast ⟨((6 : Nat) : Int), gcells true, gcons ⟨3, 2, 0, []⟩⟩ (gmat false false) :=
  gleast (gobj (show ¬ (3 : Int) = 1 by decide) (show ¬ (3 : Int) = 2 by decide) rfl ⟨(fun _ e => by cases e), (fun e => absurd e (show ¬ (3 : Int) = 4 by decide)), (fun e => absurd e (show ¬ (3 : Int) = 5 by decide))⟩) (fun e => by cases e) (fun e => by cases e)
theorem gl4false : IsLeast ⟨((6 : Nat) : Int), gcells false, gcons ⟨4, 0, 0, []⟩⟩ (gmat false true) :=
  gleast (gobj (show ¬ (4 : Int) = 1 by decide) (show ¬ (4 : Int) = 2 by decide) rfl ⟨(fun e => absurd e (show ¬ (4 : Int) = 3 by decide)), (fun _ _ => fl30), (fun e => absurd e (show ¬ (4 : Int) = 5 by decide))⟩) (fun e => by cases e) (fun e N hr n0 => (hr.2.2 (show ¬ (4 : Int) = 1 by decide) (show ¬ (4 : Int) = 2 by decide) 0 (show 0 < 2 by decide) n0).2.1 rfl rfl (by decide) (by decide) 0 n0)
theorem gl4true : IsLeast ⟨((6 : Nat) : Int), gcells true, gcons ⟨4, 0, 0, []⟩⟩ (gmat false false) :=
  gleast (gobj (show ¬ (4 : Int) = 1 by decide) (show ¬ (4 : Int) = 2 by decide) rfl ⟨(fun e => absurd e (show ¬ (4 : Int) = 3 by decide)), (fun _ e => by cases e), (fun e => absurd e (show ¬ (4 : Int) = 5 by decide))⟩) (fun e => by cases e) (fun e => by cases e)
theorem gl5false : IsLeast ⟨((6 : Nat) : Int), gcells false, gcons ⟨5, 2, 0, []⟩⟩ (gmat false false) :=
  gleast (gobj (show ¬ (5 : Int) = 1 by decide) (show ¬ (5 : Int) = 2 by decide) rfl ⟨(fun e => absurd e (show ¬ (5 : Int) = 3 by decide)), (fun e => absurd e (show ¬ (5 : Int) = 4 by decide)), (fun _ e => by cases e)⟩) (fun e => by cases e) (fun e => by cases e)
theorem gl5true : IsLeast ⟨((6 : Nat) : Int), gcells true, gcons ⟨5, 2, 0, []⟩⟩ (gmat true false) :=
  gleast (gobj (show ¬ (5 : Int) = 1 by decide) (show ¬ (5 : Int) = 2 by decide) rfl ⟨(fun e => absurd e (show ¬ (5 : Int) = 3 by decide)), (fun e => absurd e (show ¬ (5 : Int) = 4 by decide)), (fun _ _ => ⟨fl23, fun k hk => absurd hk (Nat.not_lt_zero k)⟩)⟩) (fun e N hr n0 n3 => ((hr.2.2 (show ¬ (5 : Int) = 1 by decide) (show ¬ (5 : Int) = 2 by decide) 0 (show 0 < 2 by decide) n0).2.2 rfl rfl).1 (by decide) (by decide) 1 n3) (fun e => by cases e)
set_option maxHeartbeats 8000000 in
theorem lawSolveGuards (fn : Bool) (kind : Int) (w : World) (hT : Tab w) (hk : IntKind.u8.min ≤ kind ∧ kind ≤ IntKind.u8.max) :
    Calls Tryd.prog 16 #[.bool fn, .int .u8 kind] w fun e w' => e = .returned (.bool true) ∧ Below w.heap.size w w' := by
  have hk : 0 ≤ kind ∧ kind ≤ 255 := hk
  refine enterR (args := [.bool fn, .int .u8 kind]) tabOk Tryd.func16 rfl Tryd.ntmps16 rfl ?_; conv => whnf
  refine wl_C fn32 (awake20 _ hT) rfl rfl rfl rfl rfl rfl rfl ?_
  rintro _ w1 ⟨rfl, hB1⟩
  refine ⟨_, rfl, run_l tabOk ?_⟩
  conv => whnf
  (repeat' (first | (refine wl_add rfl rfl rfl rfl rfl rfl (by omega) (by omega) (run_l tabOk ?_); conv => whnf) | (refine wl_sub rfl rfl rfl rfl rfl rfl (by omega) (by omega) (run_l tabOk ?_); conv => whnf) | (refine wl_cvA tabOk rfl rfl rfl (by simp only [inK]; omega) rfl rfl rfl (run_l tabOk ?_); conv => whnf) | (refine wl_cvB tabOk rfl rfl rfl rfl rfl rfl (run_l tabOk ?_); conv => whnf) | (refine wl_rem rfl rfl rfl rfl rfl rfl (by omega) (by omega) (fun r hr hr0 hr1 hr2 => run_l tabOk ?_); conv => whnf) | (refine wl_quo rfl rfl rfl rfl rfl rfl (by omega) (by omega) (by simp only [inK]; omega) (run_l tabOk ?_); conv => whnf) | (refine wl_mul rfl rfl rfl rfl rfl rfl (by omega) (by omega) (run_l tabOk ?_); conv => whnf) | (refine gs_dt (by first | assumption | omega) ?_; conv => whnf) | (refine gs_df (by first | assumption | omega) ?_; conv => whnf) | (refine gs_t (by assumption) ?_; conv => whnf) | (refine gs_f (by assumption) ?_; conv => whnf) | (refine gs_d (fun hg => ?_) (fun hg => ?_) <;> conv => whnf) | (refine gs_n (fun hg => ?_) (fun hg => ?_) <;> conv => whnf) | (refine gs_nb (fun hg => ?_) (fun hg => ?_) <;> conv => whnf) | (refine gs_b (fun hg => ?_) (fun hg => ?_) <;> conv => whnf) | refine fin1 rfl rfl ?_))
  refine wl_bs tabOk 71 3 rfl rfl rfl rfl rfl rfl rfl rfl rfl rfl ?_
  intro g2 w2 hn2
  refine run_l tabOk ?_
  conv => whnf
  (repeat' (first | (refine wl_add rfl rfl rfl rfl rfl rfl (by omega) (by omega) (run_l tabOk ?_); conv => whnf) | (refine wl_sub rfl rfl rfl rfl rfl rfl (by omega) (by omega) (run_l tabOk ?_); conv => whnf) | (refine wl_cvA tabOk rfl rfl rfl (by simp only [inK]; omega) rfl rfl rfl (run_l tabOk ?_); conv => whnf) | (refine wl_cvB tabOk rfl rfl rfl rfl rfl rfl (run_l tabOk ?_); conv => whnf) | (refine wl_rem rfl rfl rfl rfl rfl rfl (by omega) (by omega) (fun r hr hr0 hr1 hr2 => run_l tabOk ?_); conv => whnf) | (refine wl_quo rfl rfl rfl rfl rfl rfl (by omega) (by omega) (by simp only [inK]; omega) (run_l tabOk ?_); conv => whnf) | (refine wl_mul rfl rfl rfl rfl rfl rfl (by omega) (by omega) (run_l tabOk ?_); conv => whnf) | (refine gs_dt (by first | assumption | omega) ?_; conv => whnf) | (refine gs_df (by first | assumption | omega) ?_; conv => whnf) | (refine gs_t (by assumption) ?_; conv => whnf) | (refine gs_f (by assumption) ?_; conv => whnf) | (refine gs_d (fun hg => ?_) (fun hg => ?_) <;> conv => whnf) | (refine gs_n (fun hg => ?_) (fun hg => ?_) <;> conv => whnf) | (refine gs_nb (fun hg => ?_) (fun hg => ?_) <;> conv => whnf) | (refine gs_b (fun hg => ?_) (fun hg => ?_) <;> conv => whnf) | refine fin1 rfl rfl ?_))
  refine wl_bs tabOk 66 4 rfl rfl rfl rfl rfl rfl rfl rfl rfl rfl ?_
  intro g3 w3 hn3
  refine run_l tabOk ?_
  conv => whnf
  (repeat' (first | (refine wl_add rfl rfl rfl rfl rfl rfl (by omega) (by omega) (run_l tabOk ?_); conv => whnf) | (refine wl_sub rfl rfl rfl rfl rfl rfl (by omega) (by omega) (run_l tabOk ?_); conv => whnf) | (refine wl_cvA tabOk rfl rfl rfl (by simp only [inK]; omega) rfl rfl rfl (run_l tabOk ?_); conv => whnf) | (refine wl_cvB tabOk rfl rfl rfl rfl rfl rfl (run_l tabOk ?_); conv => whnf) | (refine wl_rem rfl rfl rfl rfl rfl rfl (by omega) (by omega) (fun r hr hr0 hr1 hr2 => run_l tabOk ?_); conv => whnf) | (refine wl_quo rfl rfl rfl rfl rfl rfl (by omega) (by omega) (by simp only [inK]; omega) (run_l tabOk ?_); conv => whnf) | (refine wl_mul rfl rfl rfl rfl rfl rfl (by omega) (by omega) (run_l tabOk ?_); conv => whnf) | (refine gs_dt (by first | assumption | omega) ?_; conv => whnf) | (refine gs_df (by first | assumption | omega) ?_; conv => whnf) | (refine gs_t (by assumption) ?_; conv => whnf) | (refine gs_f (by assumption) ?_; conv => whnf) | (refine gs_d (fun hg => ?_) (fun hg => ?_) <;> conv => whnf) | (refine gs_n (fun hg => ?_) (fun hg => ?_) <;> conv => whnf) | (refine gs_nb (fun hg => ?_) (fun hg => ?_) <;> conv => whnf) | (refine gs_b (fun hg => ?_) (fun hg => ?_) <;> conv => whnf) | refine fin1 rfl rfl ?_))
  refine wl_alloc tabOk rfl rfl rfl rfl rfl rfl ?_
  intro g4 w4 hn4
  (repeat' (first | (refine wl_add rfl rfl rfl rfl rfl rfl (by omega) (by omega) (run_l tabOk ?_); conv => whnf) | (refine wl_sub rfl rfl rfl rfl rfl rfl (by omega) (by omega) (run_l tabOk ?_); conv => whnf) | (refine wl_cvA tabOk rfl rfl rfl (by simp only [inK]; omega) rfl rfl rfl (run_l tabOk ?_); conv => whnf) | (refine wl_cvB tabOk rfl rfl rfl rfl rfl rfl (run_l tabOk ?_); conv => whnf) | (refine wl_rem rfl rfl rfl rfl rfl rfl (by omega) (by omega) (fun r hr hr0 hr1 hr2 => run_l tabOk ?_); conv => whnf) | (refine wl_quo rfl rfl rfl rfl rfl rfl (by omega) (by omega) (by simp only [inK]; omega) (run_l tabOk ?_); conv => whnf) | (refine wl_mul rfl rfl rfl rfl rfl rfl (by omega) (by omega) (run_l tabOk ?_); conv => whnf) | (refine gs_dt (by first | assumption | omega) ?_; conv => whnf) | (refine gs_df (by first | assumption | omega) ?_; conv => whnf) | (refine gs_t (by assumption) ?_; conv => whnf) | (refine gs_f (by assumption) ?_; conv => whnf) | (refine gs_d (fun hg => ?_) (fun hg => ?_) <;> conv => whnf) | (refine gs_n (fun hg => ?_) (fun hg => ?_) <;> conv => whnf) | (refine gs_nb (fun hg => ?_) (fun hg => ?_) <;> conv => whnf) | (refine gs_b (fun hg => ?_) (fun hg => ?_) <;> conv => whnf) | refine fin1 rfl rfl ?_))
  refine wl_Sa tabOk hn4.blk rfl rfl rfl rfl rfl (by simp [Value.oneCell']) rfl rfl ?_
  intro w5 hp5
  refine run_l tabOk ?_
  conv => whnf
  have hb2 := hn2.blk
  have hb3 := hn3.blk
  have hl2 := blk_lt hb2
  have hl3 := blk_lt hb3
  have a3 := hn3.at_
  have a4 := hn4.at_
  have z3 := hn3.size
  have z4 := hn4.size
  have hg1 : w1.heap.size ≤ g2 := by have := hn2.at_; omega
  have hg2 : w1.heap.size ≤ g3 := by have := hn2.size; omega
  have hg4 : w1.heap.size ≤ g4 := by have := hn2.size; omega
  have hB4 : Below w1.heap.size w1 w4 := bup (bup hn2.below hn3.below) hn4.below
  have hB5 : Below w1.heap.size w1 w5 := hp5.below hB4 hg4 hB4.size
  have hb2 := hp5.old (blk_up hn4.below (blk_up hn3.below hb2)) (by omega)
  have hb3 := hp5.old (blk_up hn4.below hb3) (by omega)
  have hb4 := hp5.blk
  have n23 : g2 ≠ g3 := by omega
  have n24 : g2 ≠ g4 := by omega
  have n34 : g3 ≠ g4 := by omega
  clear hn2 hn3 hn4 hB4 hl2 hl3 z3 z4 a3 a4
  (repeat' (first | (refine wl_add rfl rfl rfl rfl rfl rfl (by omega) (by omega) (run_l tabOk ?_); conv => whnf) | (refine wl_sub rfl rfl rfl rfl rfl rfl (by omega) (by omega) (run_l tabOk ?_); conv => whnf) | (refine wl_cvA tabOk rfl rfl rfl (by simp only [inK]; omega) rfl rfl rfl (run_l tabOk ?_); conv => whnf) | (refine wl_cvB tabOk rfl rfl rfl rfl rfl rfl (run_l tabOk ?_); conv => whnf) | (refine wl_rem rfl rfl rfl rfl rfl rfl (by omega) (by omega) (fun r hr hr0 hr1 hr2 => run_l tabOk ?_); conv => whnf) | (refine wl_quo rfl rfl rfl rfl rfl rfl (by omega) (by omega) (by simp only [inK]; omega) (run_l tabOk ?_); conv => whnf) | (refine wl_mul rfl rfl rfl rfl rfl rfl (by omega) (by omega) (run_l tabOk ?_); conv => whnf) | (refine gs_dt (by first | assumption | omega) ?_; conv => whnf) | (refine gs_df (by first | assumption | omega) ?_; conv => whnf) | (refine gs_t (by assumption) ?_; conv => whnf) | (refine gs_f (by assumption) ?_; conv => whnf) | (refine gs_d (fun hg => ?_) (fun hg => ?_) <;> conv => whnf) | (refine gs_n (fun hg => ?_) (fun hg => ?_) <;> conv => whnf) | (refine gs_nb (fun hg => ?_) (fun hg => ?_) <;> conv => whnf) | (refine gs_b (fun hg => ?_) (fun hg => ?_) <;> conv => whnf) | refine fin1 rfl rfl ?_))
  refine wl_bs tabOk 5 1 rfl rfl rfl rfl rfl rfl rfl rfl rfl rfl ?_
  intro g6 w6 hn6
  refine run_l tabOk ?_
  conv => whnf
  refine wl_rem rfl rfl rfl rfl rfl rfl (by omega) (by omega) (fun r hr hr0 hr1 hr2 => run_l tabOk ?_)
  conv => whnf
  obtain rfl | rfl | rfl : r = 0 ∨ r = 1 ∨ r = 2 := by omega
  · clear hr hr2
    (repeat' (first | (refine wl_Lg tabOk hn6.blk rfl rfl rfl rfl rfl rfl rfl (run_l tabOk ?_); conv => whnf) | (refine wl_X tabOk 5 1 rfl rfl rfl rfl rfl rfl rfl (by omega) (by omega) (run_l tabOk ?_); conv => whnf) | (refine wl_add rfl rfl rfl rfl rfl rfl (by omega) (by omega) (run_l tabOk ?_); conv => whnf) | (refine wl_sub rfl rfl rfl rfl rfl rfl (by omega) (by omega) (run_l tabOk ?_); conv => whnf) | (refine wl_cvA tabOk rfl rfl rfl (by simp only [inK]; omega) rfl rfl rfl (run_l tabOk ?_); conv => whnf) | (refine wl_cvB tabOk rfl rfl rfl rfl rfl rfl (run_l tabOk ?_); conv => whnf) | (refine wl_rem rfl rfl rfl rfl rfl rfl (by omega) (by omega) (fun r hr hr0 hr1 hr2 => run_l tabOk ?_); conv => whnf) | (refine wl_quo rfl rfl rfl rfl rfl rfl (by omega) (by omega) (by simp only [inK]; omega) (run_l tabOk ?_); conv => whnf) | (refine wl_mul rfl rfl rfl rfl rfl rfl (by omega) (by omega) (run_l tabOk ?_); conv => whnf) | (refine gs_dt (by first | assumption | omega) ?_; conv => whnf) | (refine gs_df (by first | assumption | omega) ?_; conv => whnf) | (refine gs_t (by assumption) ?_; conv => whnf) | (refine gs_f (by assumption) ?_; conv => whnf) | (refine gs_d (fun hg => ?_) (fun hg => ?_) <;> conv => whnf) | (refine gs_n (fun hg => ?_) (fun hg => ?_) <;> conv => whnf) | (refine gs_nb (fun hg => ?_) (fun hg => ?_) <;> conv => whnf) | (refine gs_b (fun hg => ?_) (fun hg => ?_) <;> conv => whnf) | refine fin1 rfl rfl ?_))
    refine wl_alloc tabOk rfl rfl rfl rfl rfl rfl ?_
    intro g7 w7 hn7
    refine run_l tabOk ?_
    conv => whnf
    (repeat' (first | (refine wl_add rfl rfl rfl rfl rfl rfl (by omega) (by omega) (run_l tabOk ?_); conv => whnf) | (refine wl_sub rfl rfl rfl rfl rfl rfl (by omega) (by omega) (run_l tabOk ?_); conv => whnf) | (refine wl_cvA tabOk rfl rfl rfl (by simp only [inK]; omega) rfl rfl rfl (run_l tabOk ?_); conv => whnf) | (refine wl_cvB tabOk rfl rfl rfl rfl rfl rfl (run_l tabOk ?_); conv => whnf) | (refine wl_rem rfl rfl rfl rfl rfl rfl (by omega) (by omega) (fun r hr hr0 hr1 hr2 => run_l tabOk ?_); conv => whnf) | (refine wl_quo rfl rfl rfl rfl rfl rfl (by omega) (by omega) (by simp only [inK]; omega) (run_l tabOk ?_); conv => whnf) | (refine wl_mul rfl rfl rfl rfl rfl rfl (by omega) (by omega) (run_l tabOk ?_); conv => whnf) | (refine gs_dt (by first | assumption | omega) ?_; conv => whnf) | (refine gs_df (by first | assumption | omega) ?_; conv => whnf) | (refine gs_t (by assumption) ?_; conv => whnf) | (refine gs_f (by assumption) ?_; conv => whnf) | (refine gs_d (fun hg => ?_) (fun hg => ?_) <;> conv => whnf) | (refine gs_n (fun hg => ?_) (fun hg => ?_) <;> conv => whnf) | (refine gs_nb (fun hg => ?_) (fun hg => ?_) <;> conv => whnf) | (refine gs_b (fun hg => ?_) (fun hg => ?_) <;> conv => whnf) | refine fin1 rfl rfl ?_))
    refine wl_Sa tabOk hn7.blk rfl rfl rfl rfl rfl (by simp [Value.oneCell']) rfl rfl ?_
    intro w8 hp8
    refine run_l tabOk ?_
    conv => whnf
    have hB57 : Below w5.heap.size w5 w7 := bup hn6.below hn7.below
    have hg7 : w5.heap.size ≤ g7 := by have := hn7.at_; have := hn6.size; omega
    have hB8 : Below w5.heap.size w5 w8 := hp8.below hB57 hg7 hB57.size
    have hb7 := hp8.blk
    clear hp8
    (repeat' (first | (refine wl_add rfl rfl rfl rfl rfl rfl (by omega) (by omega) (run_l tabOk ?_); conv => whnf) | (refine wl_sub rfl rfl rfl rfl rfl rfl (by omega) (by omega) (run_l tabOk ?_); conv => whnf) | (refine wl_cvA tabOk rfl rfl rfl (by simp only [inK]; omega) rfl rfl rfl (run_l tabOk ?_); conv => whnf) | (refine wl_cvB tabOk rfl rfl rfl rfl rfl rfl (run_l tabOk ?_); conv => whnf) | (refine wl_rem rfl rfl rfl rfl rfl rfl (by omega) (by omega) (fun r hr hr0 hr1 hr2 => run_l tabOk ?_); conv => whnf) | (refine wl_quo rfl rfl rfl rfl rfl rfl (by omega) (by omega) (by simp only [inK]; omega) (run_l tabOk ?_); conv => whnf) | (refine wl_mul rfl rfl rfl rfl rfl rfl (by omega) (by omega) (run_l tabOk ?_); conv => whnf) | (refine gs_dt (by first | assumption | omega) ?_; conv => whnf) | (refine gs_df (by first | assumption | omega) ?_; conv => whnf) | (refine gs_t (by assumption) ?_; conv => whnf) | (refine gs_f (by assumption) ?_; conv => whnf) | (refine gs_d (fun hg => ?_) (fun hg => ?_) <;> conv => whnf) | (refine gs_n (fun hg => ?_) (fun hg => ?_) <;> conv => whnf) | (refine gs_nb (fun hg => ?_) (fun hg => ?_) <;> conv => whnf) | (refine gs_b (fun hg => ?_) (fun hg => ?_) <;> conv => whnf) | refine fin1 rfl rfl ?_))
    have hb2 := blk_up hB8 hb2
    have hb3 := blk_up hB8 hb3
    have hb4 := blk_up hB8 hb4
    (repeat' (first | (refine wl_Lg tabOk hb4 rfl rfl rfl rfl rfl rfl rfl (run_l tabOk ?_); conv => whnf) | (refine wl_Lag tabOk hb7 rfl rfl rfl rfl rfl rfl (run_l tabOk ?_); conv => whnf) | (refine wl_add rfl rfl rfl rfl rfl rfl (by omega) (by omega) (run_l tabOk ?_); conv => whnf) | (refine wl_sub rfl rfl rfl rfl rfl rfl (by omega) (by omega) (run_l tabOk ?_); conv => whnf) | (refine wl_cvA tabOk rfl rfl rfl (by simp only [inK]; omega) rfl rfl rfl (run_l tabOk ?_); conv => whnf) | (refine wl_cvB tabOk rfl rfl rfl rfl rfl rfl (run_l tabOk ?_); conv => whnf) | (refine wl_rem rfl rfl rfl rfl rfl rfl (by omega) (by omega) (fun r hr hr0 hr1 hr2 => run_l tabOk ?_); conv => whnf) | (refine wl_quo rfl rfl rfl rfl rfl rfl (by omega) (by omega) (by simp only [inK]; omega) (run_l tabOk ?_); conv => whnf) | (refine wl_mul rfl rfl rfl rfl rfl rfl (by omega) (by omega) (run_l tabOk ?_); conv => whnf) | (refine gs_dt (by first | assumption | omega) ?_; conv => whnf) | (refine gs_df (by first | assumption | omega) ?_; conv => whnf) | (refine gs_t (by assumption) ?_; conv => whnf) | (refine gs_f (by assumption) ?_; conv => whnf) | (refine gs_d (fun hg => ?_) (fun hg => ?_) <;> conv => whnf) | (refine gs_n (fun hg => ?_) (fun hg => ?_) <;> conv => whnf) | (refine gs_nb (fun hg => ?_) (fun hg => ?_) <;> conv => whnf) | (refine gs_b (fun hg => ?_) (fun hg => ?_) <;> conv => whnf) | refine fin1 rfl rfl ?_))
    refine wl_bs tabOk 66 4 rfl rfl rfl rfl rfl rfl rfl rfl rfl rfl ?_
    intro g9 w9 hn9
    refine run_l tabOk ?_
    conv => whnf
    have hb2 := blk_up hn9.below hb2
    have hb3 := blk_up hn9.below hb3
    have hb4 := blk_up hn9.below hb4
    refine wl_ap tabOk 66 4 48 (own_blk (size := 4) (n := 3) hb3 (Nat.le_refl _) (by decide) rfl) hn9.blk rfl rfl rfl rfl rfl rfl rfl rfl rfl rfl rfl rfl (by simp [Value.oneCell']) (by decide) (by decide) (by have := blk_lt hb3; omega) ?_
    intro E ec ua hown hga hob
    have hB9 : Below w5.heap.size w5 w9 := bup hB8 hn9.below
    have hBa : Below w1.heap.size w1 ua := (bup hB5 hB9).grown hga (by have := hB9.size; have := hB5.size; omega) (fun k hk => by
      have hk : some g3 = some k := hk
      injection hk with hk
      omega)
    have hb2 := (hga.block g2 (blk_lt hb2) (fun e => n23 (by
      have e : some g2 = some g3 := e
      injection e with e))).trans hb2
    have hb4 := (hga.block g4 (blk_lt hb4) (fun e => n34 (by
      have e : some g4 = some g3 := e
      injection e with e
      exact e.symm))).trans hb4
    refine run_l tabOk ?_
    conv => whnf
    refine wl_S (off := 2) (v := .slice E 4 ec) tabOk hb4 rfl rfl rfl rfl rfl rfl (by simp) rfl rfl ?_
    intro ub hpb
    refine run_l tabOk ?_
    conv => whnf
    have hBb : Below w1.heap.size w1 ub := hpb.below hBa hg4 hBa.size
    have hb2 := hpb.old hb2 n24
    have hb4 := hpb.blk
    have hown := hown.kept hpb.grown (.inr fun e => by
      have := hown.lt _ e
      rcases hob with h | h
      · rw [h] at e
        have e : some g3 = some g4 := e
        injection e with e
        exact n34 e
      · rw [h] at e
        injection e with e
        have := blk_lt (blk_up hn9.below (blk_up hB8 hp5.blk))
        omega)
    have hq1 : RCells ub (some ⟨g2, 0, none⟩) (gcells fn) := row_of_blk hb2 ((Elems.one rfl (dCell_nil _ _ _ (by decide) (by decide))).push rfl (dCell_nil _ _ _ (by decide) (by decide))) (by simp [gcells])
    obtain ⟨E', ec', hE, _, hq2⟩ := row_of_own (d := dCon) (xs := gcons ⟨3, 2, 0, []⟩) hown rfl (gels ub 3 2 0 (by decide) (by decide) (by decide))
    injection hE with hE1 _ hE2
    subst hE1
    have hBb' := bup hB1 hBb
    (repeat' (first | (refine wl_Lag tabOk hb4 rfl rfl rfl rfl rfl rfl (run_l tabOk ?_); conv => whnf) | (refine wl_add rfl rfl rfl rfl rfl rfl (by omega) (by omega) (run_l tabOk ?_); conv => whnf) | (refine wl_sub rfl rfl rfl rfl rfl rfl (by omega) (by omega) (run_l tabOk ?_); conv => whnf) | (refine wl_cvA tabOk rfl rfl rfl (by simp only [inK]; omega) rfl rfl rfl (run_l tabOk ?_); conv => whnf) | (refine wl_cvB tabOk rfl rfl rfl rfl rfl rfl (run_l tabOk ?_); conv => whnf) | (refine wl_rem rfl rfl rfl rfl rfl rfl (by omega) (by omega) (fun r hr hr0 hr1 hr2 => run_l tabOk ?_); conv => whnf) | (refine wl_quo rfl rfl rfl rfl rfl rfl (by omega) (by omega) (by simp only [inK]; omega) (run_l tabOk ?_); conv => whnf) | (refine wl_mul rfl rfl rfl rfl rfl rfl (by omega) (by omega) (run_l tabOk ?_); conv => whnf) | (refine gs_dt (by first | assumption | omega) ?_; conv => whnf) | (refine gs_df (by first | assumption | omega) ?_; conv => whnf) | (refine gs_t (by assumption) ?_; conv => whnf) | (refine gs_f (by assumption) ?_; conv => whnf) | (refine gs_d (fun hg => ?_) (fun hg => ?_) <;> conv => whnf) | (refine gs_n (fun hg => ?_) (fun hg => ?_) <;> conv => whnf) | (refine gs_nb (fun hg => ?_) (fun hg => ?_) <;> conv => whnf) | (refine gs_b (fun hg => ?_) (fun hg => ?_) <;> conv => whnf) | refine fin1 rfl rfl ?_))
    cases fn with
    | false =>
      refine wl_C fn34 (solveLeast 6 (gcells false) (gcons ⟨3, 2, 0, []⟩) (some ⟨g2, 0, none⟩) E 2 ec ub hq1 hq2 (by decide) (hT.up hBb')) rfl rfl rfl rfl rfl rfl rfl ?_
      rintro _ uc ⟨M, Ap, cap, q, rfl, hIL, hrr, _, _, hBc⟩
      have hM := hIL.unique gl3false
      subst hM
      have eP : ptsOf (gmat true false) = [[0], [1], [1], [1], [], []] := by decide
      rw [eP] at hrr
      obtain ⟨x, ad, D, dc, hx, rfl, f2, _, _⟩ := rowsE hrr 2 (by simp)
      obtain ⟨y, ad', D', dc', hy, hA', f3, _, _⟩ := rowsE hrr 3 (by simp)
      have hx' : x = [1] := hx.out.symm
      have hy' : y = [1] := hy.out.symm
      subst hx' hy'
      cases hA'
      refine ⟨_, rfl, run_l tabOk ?_⟩
      conv => whnf
      (repeat' (first | (refine wl_L tabOk rfl rfl rfl rfl rfl rfl f2 (run_l tabOk ?_); conv => whnf) | (refine wl_L tabOk rfl rfl rfl rfl rfl rfl f3 (run_l tabOk ?_); conv => whnf) | (refine wl_X tabOk 46 1 rfl rfl rfl rfl rfl rfl rfl (by omega) (by omega) (run_l tabOk ?_); conv => whnf) | (refine wl_add rfl rfl rfl rfl rfl rfl (by omega) (by omega) (run_l tabOk ?_); conv => whnf) | (refine wl_sub rfl rfl rfl rfl rfl rfl (by omega) (by omega) (run_l tabOk ?_); conv => whnf) | (refine wl_cvA tabOk rfl rfl rfl (by simp only [inK]; omega) rfl rfl rfl (run_l tabOk ?_); conv => whnf) | (refine wl_cvB tabOk rfl rfl rfl rfl rfl rfl (run_l tabOk ?_); conv => whnf) | (refine wl_rem rfl rfl rfl rfl rfl rfl (by omega) (by omega) (fun r hr hr0 hr1 hr2 => run_l tabOk ?_); conv => whnf) | (refine wl_quo rfl rfl rfl rfl rfl rfl (by omega) (by omega) (by simp only [inK]; omega) (run_l tabOk ?_); conv => whnf) | (refine wl_mul rfl rfl rfl rfl rfl rfl (by omega) (by omega) (run_l tabOk ?_); conv => whnf) | (refine gs_dt (by first | assumption | omega) ?_; conv => whnf) | (refine gs_df (by first | assumption | omega) ?_; conv => whnf) | (refine gs_t (by assumption) ?_; conv => whnf) | (refine gs_f (by assumption) ?_; conv => whnf) | (refine gs_d (fun hg => ?_) (fun hg => ?_) <;> conv => whnf) | (refine gs_n (fun hg => ?_) (fun hg => ?_) <;> conv => whnf) | (refine gs_nb (fun hg => ?_) (fun hg => ?_) <;> conv => whnf) | (refine gs_b (fun hg => ?_) (fun hg => ?_) <;> conv => whnf) | refine fin1 rfl rfl ?_))
      all_goals exact ⟨rfl, bup hBb' hBc⟩
    | true =>
      refine wl_C fn34 (solveLeast 6 (gcells true) (gcons ⟨3, 2, 0, []⟩) (some ⟨g2, 0, none⟩) E 2 ec ub hq1 hq2 (by decide) (hT.up hBb')) rfl rfl rfl rfl rfl rfl rfl ?_
      rintro _ uc ⟨M, Ap, cap, q, rfl, hIL, hrr, _, _, hBc⟩
      have hM := hIL.unique gl3true
      subst hM
      have eP : ptsOf (gmat false false) = [[0], [1], [], [1], [], []] := by decide
      rw [eP] at hrr
      obtain ⟨x, ad, D, dc, hx, rfl, f2, _, _⟩ := rowsE hrr 2 (by simp)
      obtain ⟨y, ad', D', dc', hy, hA', f3, _, _⟩ := rowsE hrr 3 (by simp)
      have hx' : x = [] := hx.out.symm
      have hy' : y = [1] := hy.out.symm
      subst hx' hy'
      cases hA'
      refine ⟨_, rfl, run_l tabOk ?_⟩
      conv => whnf
      (repeat' (first | (refine wl_L tabOk rfl rfl rfl rfl rfl rfl f2 (run_l tabOk ?_); conv => whnf) | (refine wl_L tabOk rfl rfl rfl rfl rfl rfl f3 (run_l tabOk ?_); conv => whnf) | (refine wl_X tabOk 46 1 rfl rfl rfl rfl rfl rfl rfl (by omega) (by omega) (run_l tabOk ?_); conv => whnf) | (refine wl_add rfl rfl rfl rfl rfl rfl (by omega) (by omega) (run_l tabOk ?_); conv => whnf) | (refine wl_sub rfl rfl rfl rfl rfl rfl (by omega) (by omega) (run_l tabOk ?_); conv => whnf) | (refine wl_cvA tabOk rfl rfl rfl (by simp only [inK]; omega) rfl rfl rfl (run_l tabOk ?_); conv => whnf) | (refine wl_cvB tabOk rfl rfl rfl rfl rfl rfl (run_l tabOk ?_); conv => whnf) | (refine wl_rem rfl rfl rfl rfl rfl rfl (by omega) (by omega) (fun r hr hr0 hr1 hr2 => run_l tabOk ?_); conv => whnf) | (refine wl_quo rfl rfl rfl rfl rfl rfl (by omega) (by omega) (by simp only [inK]; omega) (run_l tabOk ?_); conv => whnf) | (refine wl_mul rfl rfl rfl rfl rfl rfl (by omega) (by omega) (run_l tabOk ?_); conv => whnf) | (refine gs_dt (by first | assumption | omega) ?_; conv => whnf) | (refine gs_df (by first | assumption | omega) ?_; conv => whnf) | (refine gs_t (by assumption) ?_; conv => whnf) | (refine gs_f (by assumption) ?_; conv => whnf) | (refine gs_d (fun hg => ?_) (fun hg => ?_) <;> conv => whnf) | (refine gs_n (fun hg => ?_) (fun hg => ?_) <;> conv => whnf) | (refine gs_nb (fun hg => ?_) (fun hg => ?_) <;> conv => whnf) | (refine gs_b (fun hg => ?_) (fun hg => ?_) <;> conv => whnf) | refine fin1 rfl rfl ?_))
      all_goals exact ⟨rfl, bup hBb' hBc⟩
  · clear hr hr2
    (repeat' (first | (refine wl_Lg tabOk hn6.blk rfl rfl rfl rfl rfl rfl rfl (run_l tabOk ?_); conv => whnf) | (refine wl_X tabOk 5 1 rfl rfl rfl rfl rfl rfl rfl (by omega) (by omega) (run_l tabOk ?_); conv => whnf) | (refine wl_add rfl rfl rfl rfl rfl rfl (by omega) (by omega) (run_l tabOk ?_); conv => whnf) | (refine wl_sub rfl rfl rfl rfl rfl rfl (by omega) (by omega) (run_l tabOk ?_); conv => whnf) | (refine wl_cvA tabOk rfl rfl rfl (by simp only [inK]; omega) rfl rfl rfl (run_l tabOk ?_); conv => whnf) | (refine wl_cvB tabOk rfl rfl rfl rfl rfl rfl (run_l tabOk ?_); conv => whnf) | (refine wl_rem rfl rfl rfl rfl rfl rfl (by omega) (by omega) (fun r hr hr0 hr1 hr2 => run_l tabOk ?_); conv => whnf) | (refine wl_quo rfl rfl rfl rfl rfl rfl (by omega) (by omega) (by simp only [inK]; omega) (run_l tabOk ?_); conv => whnf) | (refine wl_mul rfl rfl rfl rfl rfl rfl (by omega) (by omega) (run_l tabOk ?_); conv => whnf) | (refine gs_dt (by first | assumption | omega) ?_; conv => whnf) | (refine gs_df (by first | assumption | omega) ?_; conv => whnf) | (refine gs_t (by assumption) ?_; conv => whnf) | (refine gs_f (by assumption) ?_; conv => whnf) | (refine gs_d (fun hg => ?_) (fun hg => ?_) <;> conv => whnf) | (refine gs_n (fun hg => ?_) (fun hg => ?_) <;> conv => whnf) | (refine gs_nb (fun hg => ?_) (fun hg => ?_) <;> conv => whnf) | (refine gs_b (fun hg => ?_) (fun hg => ?_) <;> conv => whnf) | refine fin1 rfl rfl ?_))
    refine wl_alloc tabOk rfl rfl rfl rfl rfl rfl ?_
    intro g7 w7 hn7
    refine run_l tabOk ?_
    conv => whnf
    (repeat' (first | (refine wl_add rfl rfl rfl rfl rfl rfl (by omega) (by omega) (run_l tabOk ?_); conv => whnf) | (refine wl_sub rfl rfl rfl rfl rfl rfl (by omega) (by omega) (run_l tabOk ?_); conv => whnf) | (refine wl_cvA tabOk rfl rfl rfl (by simp only [inK]; omega) rfl rfl rfl (run_l tabOk ?_); conv => whnf) | (refine wl_cvB tabOk rfl rfl rfl rfl rfl rfl (run_l tabOk ?_); conv => whnf) | (refine wl_rem rfl rfl rfl rfl rfl rfl (by omega) (by omega) (fun r hr hr0 hr1 hr2 => run_l tabOk ?_); conv => whnf) | (refine wl_quo rfl rfl rfl rfl rfl rfl (by omega) (by omega) (by simp only [inK]; omega) (run_l tabOk ?_); conv => whnf) | (refine wl_mul rfl rfl rfl rfl rfl rfl (by omega) (by omega) (run_l tabOk ?_); conv => whnf) | (refine gs_dt (by first | assumption | omega) ?_; conv => whnf) | (refine gs_df (by first | assumption | omega) ?_; conv => whnf) | (refine gs_t (by assumption) ?_; conv => whnf) | (refine gs_f (by assumption) ?_; conv => whnf) | (refine gs_d (fun hg => ?_) (fun hg => ?_) <;> conv => whnf) | (refine gs_n (fun hg => ?_) (fun hg => ?_) <;> conv => whnf) | (refine gs_nb (fun hg => ?_) (fun hg => ?_) <;> conv => whnf) | (refine gs_b (fun hg => ?_) (fun hg => ?_) <;> conv => whnf) | refine fin1 rfl rfl ?_))
    refine wl_Sa tabOk hn7.blk rfl rfl rfl rfl rfl (by simp [Value.oneCell']) rfl rfl ?_
    intro w8 hp8
    refine run_l tabOk ?_
    conv => whnf
    have hB57 : Below w5.heap.size w5 w7 := bup hn6.below hn7.below
    have hg7 : w5.heap.size ≤ g7 := by have := hn7.at_; have := hn6.size; omega
    have hB8 : Below w5.heap.size w5 w8 := hp8.below hB57 hg7 hB57.size
    have hb7 := hp8.blk
    clear hp8
    (repeat' (first | (refine wl_add rfl rfl rfl rfl rfl rfl (by omega) (by omega) (run_l tabOk ?_); conv => whnf) | (refine wl_sub rfl rfl rfl rfl rfl rfl (by omega) (by omega) (run_l tabOk ?_); conv => whnf) | (refine wl_cvA tabOk rfl rfl rfl (by simp only [inK]; omega) rfl rfl rfl (run_l tabOk ?_); conv => whnf) | (refine wl_cvB tabOk rfl rfl rfl rfl rfl rfl (run_l tabOk ?_); conv => whnf) | (refine wl_rem rfl rfl rfl rfl rfl rfl (by omega) (by omega) (fun r hr hr0 hr1 hr2 => run_l tabOk ?_); conv => whnf) | (refine wl_quo rfl rfl rfl rfl rfl rfl (by omega) (by omega) (by simp only [inK]; omega) (run_l tabOk ?_); conv => whnf) | (refine wl_mul rfl rfl rfl rfl rfl rfl (by omega) (by omega) (run_l tabOk ?_); conv => whnf) | (refine gs_dt (by first | assumption | omega) ?_; conv => whnf) | (refine gs_df (by first | assumption | omega) ?_; conv => whnf) | (refine gs_t (by assumption) ?_; conv => whnf) | (refine gs_f (by assumption) ?_; conv => whnf) | (refine gs_d (fun hg => ?_) (fun hg => ?_) <;> conv => whnf) | (refine gs_n (fun hg => ?_) (fun hg => ?_) <;> conv => whnf) | (refine gs_nb (fun hg => ?_) (fun hg => ?_) <;> conv => whnf) | (refine gs_b (fun hg => ?_) (fun hg => ?_) <;> conv => whnf) | refine fin1 rfl rfl ?_))
    refine wl_Sa tabOk hb7 rfl rfl rfl rfl rfl (by simp [Value.oneCell']) rfl rfl ?_
    intro w8 hp8
    refine run_l tabOk ?_
    conv => whnf
    have hB8 : Below w5.heap.size w5 w8 := hp8.below hB8 hg7 hB8.size
    have hb7 := hp8.blk
    clear hp8
    have hb2 := blk_up hB8 hb2
    have hb3 := blk_up hB8 hb3
    have hb4 := blk_up hB8 hb4
    (repeat' (first | (refine wl_Lg tabOk hb4 rfl rfl rfl rfl rfl rfl rfl (run_l tabOk ?_); conv => whnf) | (refine wl_Lag tabOk hb7 rfl rfl rfl rfl rfl rfl (run_l tabOk ?_); conv => whnf) | (refine wl_add rfl rfl rfl rfl rfl rfl (by omega) (by omega) (run_l tabOk ?_); conv => whnf) | (refine wl_sub rfl rfl rfl rfl rfl rfl (by omega) (by omega) (run_l tabOk ?_); conv => whnf) | (refine wl_cvA tabOk rfl rfl rfl (by simp only [inK]; omega) rfl rfl rfl (run_l tabOk ?_); conv => whnf) | (refine wl_cvB tabOk rfl rfl rfl rfl rfl rfl (run_l tabOk ?_); conv => whnf) | (refine wl_rem rfl rfl rfl rfl rfl rfl (by omega) (by omega) (fun r hr hr0 hr1 hr2 => run_l tabOk ?_); conv => whnf) | (refine wl_quo rfl rfl rfl rfl rfl rfl (by omega) (by omega) (by simp only [inK]; omega) (run_l tabOk ?_); conv => whnf) | (refine wl_mul rfl rfl rfl rfl rfl rfl (by omega) (by omega) (run_l tabOk ?_); conv => whnf) | (refine gs_dt (by first | assumption | omega) ?_; conv => whnf) | (refine gs_df (by first | assumption | omega) ?_; conv => whnf) | (refine gs_t (by assumption) ?_; conv => whnf) | (refine gs_f (by assumption) ?_; conv => whnf) | (refine gs_d (fun hg => ?_) (fun hg => ?_) <;> conv => whnf) | (refine gs_n (fun hg => ?_) (fun hg => ?_) <;> conv => whnf) | (refine gs_nb (fun hg => ?_) (fun hg => ?_) <;> conv => whnf) | (refine gs_b (fun hg => ?_) (fun hg => ?_) <;> conv => whnf) | refine fin1 rfl rfl ?_))
    refine wl_bs tabOk 66 4 rfl rfl rfl rfl rfl rfl rfl rfl rfl rfl ?_
    intro g9 w9 hn9
    refine run_l tabOk ?_
    conv => whnf
    have hb2 := blk_up hn9.below hb2
    have hb3 := blk_up hn9.below hb3
    have hb4 := blk_up hn9.below hb4
    refine wl_ap tabOk 66 4 48 (own_blk (size := 4) (n := 3) hb3 (Nat.le_refl _) (by decide) rfl) hn9.blk rfl rfl rfl rfl rfl rfl rfl rfl rfl rfl rfl rfl (by simp [Value.oneCell']) (by decide) (by decide) (by have := blk_lt hb3; omega) ?_
    intro E ec ua hown hga hob
    have hB9 : Below w5.heap.size w5 w9 := bup hB8 hn9.below
    have hBa : Below w1.heap.size w1 ua := (bup hB5 hB9).grown hga (by have := hB9.size; have := hB5.size; omega) (fun k hk => by
      have hk : some g3 = some k := hk
      injection hk with hk
      omega)
    have hb2 := (hga.block g2 (blk_lt hb2) (fun e => n23 (by
      have e : some g2 = some g3 := e
      injection e with e))).trans hb2
    have hb4 := (hga.block g4 (blk_lt hb4) (fun e => n34 (by
      have e : some g4 = some g3 := e
      injection e with e
      exact e.symm))).trans hb4
    refine run_l tabOk ?_
    conv => whnf
    refine wl_S (off := 2) (v := .slice E 4 ec) tabOk hb4 rfl rfl rfl rfl rfl rfl (by simp) rfl rfl ?_
    intro ub hpb
    refine run_l tabOk ?_
    conv => whnf
    have hBb : Below w1.heap.size w1 ub := hpb.below hBa hg4 hBa.size
    have hb2 := hpb.old hb2 n24
    have hb4 := hpb.blk
    have hown := hown.kept hpb.grown (.inr fun e => by
      have := hown.lt _ e
      rcases hob with h | h
      · rw [h] at e
        have e : some g3 = some g4 := e
        injection e with e
        exact n34 e
      · rw [h] at e
        injection e with e
        have := blk_lt (blk_up hn9.below (blk_up hB8 hp5.blk))
        omega)
    have hq1 : RCells ub (some ⟨g2, 0, none⟩) (gcells fn) := row_of_blk hb2 ((Elems.one rfl (dCell_nil _ _ _ (by decide) (by decide))).push rfl (dCell_nil _ _ _ (by decide) (by decide))) (by simp [gcells])
    obtain ⟨E', ec', hE, _, hq2⟩ := row_of_own (d := dCon) (xs := gcons ⟨4, 0, 0, []⟩) hown rfl (gels ub 4 0 0 (by decide) (by decide) (by decide))
    injection hE with hE1 _ hE2
    subst hE1
    have hBb' := bup hB1 hBb
    (repeat' (first | (refine wl_Lag tabOk hb4 rfl rfl rfl rfl rfl rfl (run_l tabOk ?_); conv => whnf) | (refine wl_add rfl rfl rfl rfl rfl rfl (by omega) (by omega) (run_l tabOk ?_); conv => whnf) | (refine wl_sub rfl rfl rfl rfl rfl rfl (by omega) (by omega) (run_l tabOk ?_); conv => whnf) | (refine wl_cvA tabOk rfl rfl rfl (by simp only [inK]; omega) rfl rfl rfl (run_l tabOk ?_); conv => whnf) | (refine wl_cvB tabOk rfl rfl rfl rfl rfl rfl (run_l tabOk ?_); conv => whnf) | (refine wl_rem rfl rfl rfl rfl rfl rfl (by omega) (by omega) (fun r hr hr0 hr1 hr2 => run_l tabOk ?_); conv => whnf) | (refine wl_quo rfl rfl rfl rfl rfl rfl (by omega) (by omega) (by simp only [inK]; omega) (run_l tabOk ?_); conv => whnf) | (refine wl_mul rfl rfl rfl rfl rfl rfl (by omega) (by omega) (run_l tabOk ?_); conv => whnf) | (refine gs_dt (by first | assumption | omega) ?_; conv => whnf) | (refine gs_df (by first | assumption | omega) ?_; conv => whnf) | (refine gs_t (by assumption) ?_; conv => whnf) | (refine gs_f (by assumption) ?_; conv => whnf) | (refine gs_d (fun hg => ?_) (fun hg => ?_) <;> conv => whnf) | (refine gs_n (fun hg => ?_) (fun hg => ?_) <;> conv => whnf) | (refine gs_nb (fun hg => ?_) (fun hg => ?_) <;> conv => whnf) | (refine gs_b (fun hg => ?_) (fun hg => ?_) <;> conv => whnf) | refine fin1 rfl rfl ?_))
    cases fn with
    | false =>
      refine wl_C fn34 (solveLeast 6 (gcells false) (gcons ⟨4, 0, 0, []⟩) (some ⟨g2, 0, none⟩) E 2 ec ub hq1 hq2 (by decide) (hT.up hBb')) rfl rfl rfl rfl rfl rfl rfl ?_
      rintro _ uc ⟨M, Ap, cap, q, rfl, hIL, hrr, _, _, hBc⟩
      have hM := hIL.unique gl4false
      subst hM
      have eP : ptsOf (gmat false true) = [[0], [1], [], [0, 1], [], []] := by decide
      rw [eP] at hrr
      obtain ⟨x, ad, D, dc, hx, rfl, f2, _, _⟩ := rowsE hrr 2 (by simp)
      obtain ⟨y, ad', D', dc', hy, hA', f3, _, _⟩ := rowsE hrr 3 (by simp)
      have hx' : x = [] := hx.out.symm
      have hy' : y = [0, 1] := hy.out.symm
      subst hx' hy'
      cases hA'
      refine ⟨_, rfl, run_l tabOk ?_⟩
      conv => whnf
      (repeat' (first | (refine wl_L tabOk rfl rfl rfl rfl rfl rfl f2 (run_l tabOk ?_); conv => whnf) | (refine wl_L tabOk rfl rfl rfl rfl rfl rfl f3 (run_l tabOk ?_); conv => whnf) | (refine wl_X tabOk 46 1 rfl rfl rfl rfl rfl rfl rfl (by omega) (by omega) (run_l tabOk ?_); conv => whnf) | (refine wl_add rfl rfl rfl rfl rfl rfl (by omega) (by omega) (run_l tabOk ?_); conv => whnf) | (refine wl_sub rfl rfl rfl rfl rfl rfl (by omega) (by omega) (run_l tabOk ?_); conv => whnf) | (refine wl_cvA tabOk rfl rfl rfl (by simp only [inK]; omega) rfl rfl rfl (run_l tabOk ?_); conv => whnf) | (refine wl_cvB tabOk rfl rfl rfl rfl rfl rfl (run_l tabOk ?_); conv => whnf) | (refine wl_rem rfl rfl rfl rfl rfl rfl (by omega) (by omega) (fun r hr hr0 hr1 hr2 => run_l tabOk ?_); conv => whnf) | (refine wl_quo rfl rfl rfl rfl rfl rfl (by omega) (by omega) (by simp only [inK]; omega) (run_l tabOk ?_); conv => whnf) | (refine wl_mul rfl rfl rfl rfl rfl rfl (by omega) (by omega) (run_l tabOk ?_); conv => whnf) | (refine gs_dt (by first | assumption | omega) ?_; conv => whnf) | (refine gs_df (by first | assumption | omega) ?_; conv => whnf) | (refine gs_t (by assumption) ?_; conv => whnf) | (refine gs_f (by assumption) ?_; conv => whnf) | (refine gs_d (fun hg => ?_) (fun hg => ?_) <;> conv => whnf) | (refine gs_n (fun hg => ?_) (fun hg => ?_) <;> conv => whnf) | (refine gs_nb (fun hg => ?_) (fun hg => ?_) <;> conv => whnf) | (refine gs_b (fun hg => ?_) (fun hg => ?_) <;> conv => whnf) | refine fin1 rfl rfl ?_))
      all_goals exact ⟨rfl, bup hBb' hBc⟩
    | true =>
      refine wl_C fn34 (solveLeast 6 (gcells true) (gcons ⟨4, 0, 0, []⟩) (some ⟨g2, 0, none⟩) E 2 ec ub hq1 hq2 (by decide) (hT.up hBb')) rfl rfl rfl rfl rfl rfl rfl ?_
      rintro _ uc ⟨M, Ap, cap, q, rfl, hIL, hrr, _, _, hBc⟩
      have hM := hIL.unique gl4true
      subst hM
      have eP : ptsOf (gmat false false) = [[0], [1], [], [1], [], []] := by decide
      rw [eP] at hrr
      obtain ⟨x, ad, D, dc, hx, rfl, f2, _, _⟩ := rowsE hrr 2 (by simp)
      obtain ⟨y, ad', D', dc', hy, hA', f3, _, _⟩ := rowsE hrr 3 (by simp)
      have hx' : x = [] := hx.out.symm
      have hy' : y = [1] := hy.out.symm
      subst hx' hy'
      cases hA'
      refine ⟨_, rfl, run_l tabOk ?_⟩
      conv => whnf
      (repeat' (first | (refine wl_L tabOk rfl rfl rfl rfl rfl rfl f2 (run_l tabOk ?_); conv => whnf) | (refine wl_L tabOk rfl rfl rfl rfl rfl rfl f3 (run_l tabOk ?_); conv => whnf) | (refine wl_X tabOk 46 1 rfl rfl rfl rfl rfl rfl rfl (by omega) (by omega) (run_l tabOk ?_); conv => whnf) | (refine wl_add rfl rfl rfl rfl rfl rfl (by omega) (by omega) (run_l tabOk ?_); conv => whnf) | (refine wl_sub rfl rfl rfl rfl rfl rfl (by omega) (by omega) (run_l tabOk ?_); conv => whnf) | (refine wl_cvA tabOk rfl rfl rfl (by simp only [inK]; omega) rfl rfl rfl (run_l tabOk ?_); conv => whnf) | (refine wl_cvB tabOk rfl rfl rfl rfl rfl rfl (run_l tabOk ?_); conv => whnf) | (refine wl_rem rfl rfl rfl rfl rfl rfl (by omega) (by omega) (fun r hr hr0 hr1 hr2 => run_l tabOk ?_); conv => whnf) | (refine wl_quo rfl rfl rfl rfl rfl rfl (by omega) (by omega) (by simp only [inK]; omega) (run_l tabOk ?_); conv => whnf) | (refine wl_mul rfl rfl rfl rfl rfl rfl (by omega) (by omega) (run_l tabOk ?_); conv => whnf) | (refine gs_dt (by first | assumption | omega) ?_; conv => whnf) | (refine gs_df (by first | assumption | omega) ?_; conv => whnf) | (refine gs_t (by assumption) ?_; conv => whnf) | (refine gs_f (by assumption) ?_; conv => whnf) | (refine gs_d (fun hg => ?_) (fun hg => ?_) <;> conv => whnf) | (refine gs_n (fun hg => ?_) (fun hg => ?_) <;> conv => whnf) | (refine gs_nb (fun hg => ?_) (fun hg => ?_) <;> conv => whnf) | (refine gs_b (fun hg => ?_) (fun hg => ?_) <;> conv => whnf) | refine fin1 rfl rfl ?_))
      all_goals exact ⟨rfl, bup hBb' hBc⟩
  · clear hr hr2
    (repeat' (first | (refine wl_Lg tabOk hn6.blk rfl rfl rfl rfl rfl rfl rfl (run_l tabOk ?_); conv => whnf) | (refine wl_X tabOk 5 1 rfl rfl rfl rfl rfl rfl rfl (by omega) (by omega) (run_l tabOk ?_); conv => whnf) | (refine wl_add rfl rfl rfl rfl rfl rfl (by omega) (by omega) (run_l tabOk ?_); conv => whnf) | (refine wl_sub rfl rfl rfl rfl rfl rfl (by omega) (by omega) (run_l tabOk ?_); conv => whnf) | (refine wl_cvA tabOk rfl rfl rfl (by simp only [inK]; omega) rfl rfl rfl (run_l tabOk ?_); conv => whnf) | (refine wl_cvB tabOk rfl rfl rfl rfl rfl rfl (run_l tabOk ?_); conv => whnf) | (refine wl_rem rfl rfl rfl rfl rfl rfl (by omega) (by omega) (fun r hr hr0 hr1 hr2 => run_l tabOk ?_); conv => whnf) | (refine wl_quo rfl rfl rfl rfl rfl rfl (by omega) (by omega) (by simp only [inK]; omega) (run_l tabOk ?_); conv => whnf) | (refine wl_mul rfl rfl rfl rfl rfl rfl (by omega) (by omega) (run_l tabOk ?_); conv => whnf) | (refine gs_dt (by first | assumption | omega) ?_; conv => whnf) | (refine gs_df (by first | assumption | omega) ?_; conv => whnf) | (refine gs_t (by assumption) ?_; conv => whnf) | (refine gs_f (by assumption) ?_; conv => whnf) | (refine gs_d (fun hg => ?_) (fun hg => ?_) <;> conv => whnf) | (refine gs_n (fun hg => ?_) (fun hg => ?_) <;> conv => whnf) | (refine gs_nb (fun hg => ?_) (fun hg => ?_) <;> conv => whnf) | (refine gs_b (fun hg => ?_) (fun hg => ?_) <;> conv => whnf) | refine fin1 rfl rfl ?_))
    refine wl_alloc tabOk rfl rfl rfl rfl rfl rfl ?_
    intro g7 w7 hn7
    refine run_l tabOk ?_
    conv => whnf
    (repeat' (first | (refine wl_add rfl rfl rfl rfl rfl rfl (by omega) (by omega) (run_l tabOk ?_); conv => whnf) | (refine wl_sub rfl rfl rfl rfl rfl rfl (by omega) (by omega) (run_l tabOk ?_); conv => whnf) | (refine wl_cvA tabOk rfl rfl rfl (by simp only [inK]; omega) rfl rfl rfl (run_l tabOk ?_); conv => whnf) | (refine wl_cvB tabOk rfl rfl rfl rfl rfl rfl (run_l tabOk ?_); conv => whnf) | (refine wl_rem rfl rfl rfl rfl rfl rfl (by omega) (by omega) (fun r hr hr0 hr1 hr2 => run_l tabOk ?_); conv => whnf) | (refine wl_quo rfl rfl rfl rfl rfl rfl (by omega) (by omega) (by simp only [inK]; omega) (run_l tabOk ?_); conv => whnf) | (refine wl_mul rfl rfl rfl rfl rfl rfl (by omega) (by omega) (run_l tabOk ?_); conv => whnf) | (refine gs_dt (by first | assumption | omega) ?_; conv => whnf) | (refine gs_df (by first | assumption | omega) ?_; conv => whnf) | (refine gs_t (by assumption) ?_; conv => whnf) | (refine gs_f (by assumption) ?_; conv => whnf) | (refine gs_d (fun hg => ?_) (fun hg => ?_) <;> conv => whnf) | (refine gs_n (fun hg => ?_) (fun hg => ?_) <;> conv => whnf) | (refine gs_nb (fun hg => ?_) (fun hg => ?_) <;> conv => whnf) | (refine gs_b (fun hg => ?_) (fun hg => ?_) <;> conv => whnf) | refine fin1 rfl rfl ?_))
    refine wl_Sa tabOk hn7.blk rfl rfl rfl rfl rfl (by simp [Value.oneCell']) rfl rfl ?_
    intro w8 hp8
    refine run_l tabOk ?_
    conv => whnf
    have hB57 : Below w5.heap.size w5 w7 := bup hn6.below hn7.below
    have hg7 : w5.heap.size ≤ g7 := by have := hn7.at_; have := hn6.size; omega
    have hB8 : Below w5.heap.size w5 w8 := hp8.below hB57 hg7 hB57.size
    have hb7 := hp8.blk
    clear hp8
    (repeat' (first | (refine wl_add rfl rfl rfl rfl rfl rfl (by omega) (by omega) (run_l tabOk ?_); conv => whnf) | (refine wl_sub rfl rfl rfl rfl rfl rfl (by omega) (by omega) (run_l tabOk ?_); conv => whnf) | (refine wl_cvA tabOk rfl rfl rfl (by simp only [inK]; omega) rfl rfl rfl (run_l tabOk ?_); conv => whnf) | (refine wl_cvB tabOk rfl rfl rfl rfl rfl rfl (run_l tabOk ?_); conv => whnf) | (refine wl_rem rfl rfl rfl rfl rfl rfl (by omega) (by omega) (fun r hr hr0 hr1 hr2 => run_l tabOk ?_); conv => whnf) | (refine wl_quo rfl rfl rfl rfl rfl rfl (by omega) (by omega) (by simp only [inK]; omega) (run_l tabOk ?_); conv => whnf) | (refine wl_mul rfl rfl rfl rfl rfl rfl (by omega) (by omega) (run_l tabOk ?_); conv => whnf) | (refine gs_dt (by first | assumption | omega) ?_; conv => whnf) | (refine gs_df (by first | assumption | omega) ?_; conv => whnf) | (refine gs_t (by assumption) ?_; conv => whnf) | (refine gs_f (by assumption) ?_; conv => whnf) | (refine gs_d (fun hg => ?_) (fun hg => ?_) <;> conv => whnf) | (refine gs_n (fun hg => ?_) (fun hg => ?_) <;> conv => whnf) | (refine gs_nb (fun hg => ?_) (fun hg => ?_) <;> conv => whnf) | (refine gs_b (fun hg => ?_) (fun hg => ?_) <;> conv => whnf) | refine fin1 rfl rfl ?_))
    have hb2 := blk_up hB8 hb2
    have hb3 := blk_up hB8 hb3
    have hb4 := blk_up hB8 hb4
    (repeat' (first | (refine wl_Lg tabOk hb4 rfl rfl rfl rfl rfl rfl rfl (run_l tabOk ?_); conv => whnf) | (refine wl_Lag tabOk hb7 rfl rfl rfl rfl rfl rfl (run_l tabOk ?_); conv => whnf) | (refine wl_add rfl rfl rfl rfl rfl rfl (by omega) (by omega) (run_l tabOk ?_); conv => whnf) | (refine wl_sub rfl rfl rfl rfl rfl rfl (by omega) (by omega) (run_l tabOk ?_); conv => whnf) | (refine wl_cvA tabOk rfl rfl rfl (by simp only [inK]; omega) rfl rfl rfl (run_l tabOk ?_); conv => whnf) | (refine wl_cvB tabOk rfl rfl rfl rfl rfl rfl (run_l tabOk ?_); conv => whnf) | (refine wl_rem rfl rfl rfl rfl rfl rfl (by omega) (by omega) (fun r hr hr0 hr1 hr2 => run_l tabOk ?_); conv => whnf) | (refine wl_quo rfl rfl rfl rfl rfl rfl (by omega) (by omega) (by simp only [inK]; omega) (run_l tabOk ?_); conv => whnf) | (refine wl_mul rfl rfl rfl rfl rfl rfl (by omega) (by omega) (run_l tabOk ?_); conv => whnf) | (refine gs_dt (by first | assumption | omega) ?_; conv => whnf) | (refine gs_df (by first | assumption | omega) ?_; conv => whnf) | (refine gs_t (by assumption) ?_; conv => whnf) | (refine gs_f (by assumption) ?_; conv => whnf) | (refine gs_d (fun hg => ?_) (fun hg => ?_) <;> conv => whnf) | (refine gs_n (fun hg => ?_) (fun hg => ?_) <;> conv => whnf) | (refine gs_nb (fun hg => ?_) (fun hg => ?_) <;> conv => whnf) | (refine gs_b (fun hg => ?_) (fun hg => ?_) <;> conv => whnf) | refine fin1 rfl rfl ?_))
    refine wl_bs tabOk 66 4 rfl rfl rfl rfl rfl rfl rfl rfl rfl rfl ?_
    intro g9 w9 hn9
    refine run_l tabOk ?_
    conv => whnf
    have hb2 := blk_up hn9.below hb2
    have hb3 := blk_up hn9.below hb3
    have hb4 := blk_up hn9.below hb4
    refine wl_ap tabOk 66 4 48 (own_blk (size := 4) (n := 3) hb3 (Nat.le_refl _) (by decide) rfl) hn9.blk rfl rfl rfl rfl rfl rfl rfl rfl rfl rfl rfl rfl (by simp [Value.oneCell']) (by decide) (by decide) (by have := blk_lt hb3; omega) ?_
    intro E ec ua hown hga hob
    have hB9 : Below w5.heap.size w5 w9 := bup hB8 hn9.below
    have hBa : Below w1.heap.size w1 ua := (bup hB5 hB9).grown hga (by have := hB9.size; have := hB5.size; omega) (fun k hk => by
      have hk : some g3 = some k := hk
      injection hk with hk
      omega)
    have hb2 := (hga.block g2 (blk_lt hb2) (fun e => n23 (by
      have e : some g2 = some g3 := e
      injection e with e))).trans hb2
    have hb4 := (hga.block g4 (blk_lt hb4) (fun e => n34 (by
      have e : some g4 = some g3 := e
      injection e with e
      exact e.symm))).trans hb4
    refine run_l tabOk ?_
    conv => whnf
    refine wl_S (off := 2) (v := .slice E 4 ec) tabOk hb4 rfl rfl rfl rfl rfl rfl (by simp) rfl rfl ?_
    intro ub hpb
    refine run_l tabOk ?_
    conv => whnf
    have hBb : Below w1.heap.size w1 ub := hpb.below hBa hg4 hBa.size
    have hb2 := hpb.old hb2 n24
    have hb4 := hpb.blk
    have hown := hown.kept hpb.grown (.inr fun e => by
      have := hown.lt _ e
      rcases hob with h | h
      · rw [h] at e
        have e : some g3 = some g4 := e
        injection e with e
        exact n34 e
      · rw [h] at e
        injection e with e
        have := blk_lt (blk_up hn9.below (blk_up hB8 hp5.blk))
        omega)
    have hq1 : RCells ub (some ⟨g2, 0, none⟩) (gcells fn) := row_of_blk hb2 ((Elems.one rfl (dCell_nil _ _ _ (by decide) (by decide))).push rfl (dCell_nil _ _ _ (by decide) (by decide))) (by simp [gcells])
    obtain ⟨E', ec', hE, _, hq2⟩ := row_of_own (d := dCon) (xs := gcons ⟨5, 2, 0, []⟩) hown rfl (gels ub 5 2 0 (by decide) (by decide) (by decide))
    injection hE with hE1 _ hE2
    subst hE1
    have hBb' := bup hB1 hBb
    (repeat' (first | (refine wl_Lag tabOk hb4 rfl rfl rfl rfl rfl rfl (run_l tabOk ?_); conv => whnf) | (refine wl_add rfl rfl rfl rfl rfl rfl (by omega) (by omega) (run_l tabOk ?_); conv => whnf) | (refine wl_sub rfl rfl rfl rfl rfl rfl (by omega) (by omega) (run_l tabOk ?_); conv => whnf) | (refine wl_cvA tabOk rfl rfl rfl (by simp only [inK]; omega) rfl rfl rfl (run_l tabOk ?_); conv => whnf) | (refine wl_cvB tabOk rfl rfl rfl rfl rfl rfl (run_l tabOk ?_); conv => whnf) | (refine wl_rem rfl rfl rfl rfl rfl rfl (by omega) (by omega) (fun r hr hr0 hr1 hr2 => run_l tabOk ?_); conv => whnf) | (refine wl_quo rfl rfl rfl rfl rfl rfl (by omega) (by omega) (by simp only [inK]; omega) (run_l tabOk ?_); conv => whnf) | (refine wl_mul rfl rfl rfl rfl rfl rfl (by omega) (by omega) (run_l tabOk ?_); conv => whnf) | (refine gs_dt (by first | assumption | omega) ?_; conv => whnf) | (refine gs_df (by first | assumption | omega) ?_; conv => whnf) | (refine gs_t (by assumption) ?_; conv => whnf) | (refine gs_f (by assumption) ?_; conv => whnf) | (refine gs_d (fun hg => ?_) (fun hg => ?_) <;> conv => whnf) | (refine gs_n (fun hg => ?_) (fun hg => ?_) <;> conv => whnf) | (refine gs_nb (fun hg => ?_) (fun hg => ?_) <;> conv => whnf) | (refine gs_b (fun hg => ?_) (fun hg => ?_) <;> conv => whnf) | refine fin1 rfl rfl ?_))
    cases fn with
    | false =>
      refine wl_C fn34 (solveLeast 6 (gcells false) (gcons ⟨5, 2, 0, []⟩) (some ⟨g2, 0, none⟩) E 2 ec ub hq1 hq2 (by decide) (hT.up hBb')) rfl rfl rfl rfl rfl rfl rfl ?_
      rintro _ uc ⟨M, Ap, cap, q, rfl, hIL, hrr, _, _, hBc⟩
      have hM := hIL.unique gl5false
      subst hM
      have eP : ptsOf (gmat false false) = [[0], [1], [], [1], [], []] := by decide
      rw [eP] at hrr
      obtain ⟨x, ad, D, dc, hx, rfl, f2, _, _⟩ := rowsE hrr 2 (by simp)
      obtain ⟨y, ad', D', dc', hy, hA', f3, _, _⟩ := rowsE hrr 3 (by simp)
      have hx' : x = [] := hx.out.symm
      have hy' : y = [1] := hy.out.symm
      subst hx' hy'
      cases hA'
      refine ⟨_, rfl, run_l tabOk ?_⟩
      conv => whnf
      (repeat' (first | (refine wl_L tabOk rfl rfl rfl rfl rfl rfl f2 (run_l tabOk ?_); conv => whnf) | (refine wl_L tabOk rfl rfl rfl rfl rfl rfl f3 (run_l tabOk ?_); conv => whnf) | (refine wl_X tabOk 46 1 rfl rfl rfl rfl rfl rfl rfl (by omega) (by omega) (run_l tabOk ?_); conv => whnf) | (refine wl_add rfl rfl rfl rfl rfl rfl (by omega) (by omega) (run_l tabOk ?_); conv => whnf) | (refine wl_sub rfl rfl rfl rfl rfl rfl (by omega) (by omega) (run_l tabOk ?_); conv => whnf) | (refine wl_cvA tabOk rfl rfl rfl (by simp only [inK]; omega) rfl rfl rfl (run_l tabOk ?_); conv => whnf) | (refine wl_cvB tabOk rfl rfl rfl rfl rfl rfl (run_l tabOk ?_); conv => whnf) | (refine wl_rem rfl rfl rfl rfl rfl rfl (by omega) (by omega) (fun r hr hr0 hr1 hr2 => run_l tabOk ?_); conv => whnf) | (refine wl_quo rfl rfl rfl rfl rfl rfl (by omega) (by omega) (by simp only [inK]; omega) (run_l tabOk ?_); conv => whnf) | (refine wl_mul rfl rfl rfl rfl rfl rfl (by omega) (by omega) (run_l tabOk ?_); conv => whnf) | (refine gs_dt (by first | assumption | omega) ?_; conv => whnf) | (refine gs_df (by first | assumption | omega) ?_; conv => whnf) | (refine gs_t (by assumption) ?_; conv => whnf) | (refine gs_f (by assumption) ?_; conv => whnf) | (refine gs_d (fun hg => ?_) (fun hg => ?_) <;> conv => whnf) | (refine gs_n (fun hg => ?_) (fun hg => ?_) <;> conv => whnf) | (refine gs_nb (fun hg => ?_) (fun hg => ?_) <;> conv => whnf) | (refine gs_b (fun hg => ?_) (fun hg => ?_) <;> conv => whnf) | refine fin1 rfl rfl ?_))
      all_goals exact ⟨rfl, bup hBb' hBc⟩
    | true =>
      refine wl_C fn34 (solveLeast 6 (gcells true) (gcons ⟨5, 2, 0, []⟩) (some ⟨g2, 0, none⟩) E 2 ec ub hq1 hq2 (by decide) (hT.up hBb')) rfl rfl rfl rfl rfl rfl rfl ?_
      rintro _ uc ⟨M, Ap, cap, q, rfl, hIL, hrr, _, _, hBc⟩
      have hM := hIL.unique gl5true
      subst hM
      have eP : ptsOf (gmat true false) = [[0], [1], [1], [1], [], []] := by decide
      rw [eP] at hrr
      obtain ⟨x, ad, D, dc, hx, rfl, f2, _, _⟩ := rowsE hrr 2 (by simp)
      obtain ⟨y, ad', D', dc', hy, hA', f3, _, _⟩ := rowsE hrr 3 (by simp)
      have hx' : x = [1] := hx.out.symm
      have hy' : y = [1] := hy.out.symm
      subst hx' hy'
      cases hA'
      refine ⟨_, rfl, run_l tabOk ?_⟩
      conv => whnf
      (repeat' (first | (refine wl_L tabOk rfl rfl rfl rfl rfl rfl f2 (run_l tabOk ?_); conv => whnf) | (refine wl_L tabOk rfl rfl rfl rfl rfl rfl f3 (run_l tabOk ?_); conv => whnf) | (refine wl_X tabOk 46 1 rfl rfl rfl rfl rfl rfl rfl (by omega) (by omega) (run_l tabOk ?_); conv => whnf) | (refine wl_add rfl rfl rfl rfl rfl rfl (by omega) (by omega) (run_l tabOk ?_); conv => whnf) | (refine wl_sub rfl rfl rfl rfl rfl rfl (by omega) (by omega) (run_l tabOk ?_); conv => whnf) | (refine wl_cvA tabOk rfl rfl rfl (by simp only [inK]; omega) rfl rfl rfl (run_l tabOk ?_); conv => whnf) | (refine wl_cvB tabOk rfl rfl rfl rfl rfl rfl (run_l tabOk ?_); conv => whnf) | (refine wl_rem rfl rfl rfl rfl rfl rfl (by omega) (by omega) (fun r hr hr0 hr1 hr2 => run_l tabOk ?_); conv => whnf) | (refine wl_quo rfl rfl rfl rfl rfl rfl (by omega) (by omega) (by simp only [inK]; omega) (run_l tabOk ?_); conv => whnf) | (refine wl_mul rfl rfl rfl rfl rfl rfl (by omega) (by omega) (run_l tabOk ?_); conv => whnf) | (refine gs_dt (by first | assumption | omega) ?_; conv => whnf) | (refine gs_df (by first | assumption | omega) ?_; conv => whnf) | (refine gs_t (by assumption) ?_; conv => whnf) | (refine gs_f (by assumption) ?_; conv => whnf) | (refine gs_d (fun hg => ?_) (fun hg => ?_) <;> conv => whnf) | (refine gs_n (fun hg => ?_) (fun hg => ?_) <;> conv => whnf) | (refine gs_nb (fun hg => ?_) (fun hg => ?_) <;> conv => whnf) | (refine gs_b (fun hg => ?_) (fun hg => ?_) <;> conv => whnf) | refine fin1 rfl rfl ?_))
      all_goals exact ⟨rfl, bup hBb' hBc⟩
end Go.Proofs.YtkjbkalakafnlaaDoor
