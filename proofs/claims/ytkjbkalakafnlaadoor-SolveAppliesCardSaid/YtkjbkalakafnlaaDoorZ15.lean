/- Several texts of one claim in one file: S03 A3 MX23 EF CL23. -/
import Derived.Test.YtkjbkalakafnlaaDoorZ10
import Derived.Laws.StructEq
import Derived.Test.YtkjbkalakafnlaaDoorZ4
import Derived.Test.YtkjbkalakafnlaaDoorZ7
import Derived.Laws.FloatArith
/- pile: slices.Equal, Same, slices.Clone, Copy. -/
namespace Go.Proofs.YtkjbkalakafnlaaDoor
open Go.RowKit
set_option linter.unusedVariables false
set_option linter.unusedSimpArgs false
set_option maxRecDepth 100000
theorem eqBlk_run {w : World} (x y : Blk) : (Op.equal 104 (.agg #[.int .i64 x.a, .int .u64 (x.w : Int)]) (.agg #[.int .i64 y.a, .int .u64 (y.w : Int)])).run Tryd.prog w = .ok (decide (x = y)) w := by
  have e : (Op.equal 104 (.agg #[.int .i64 x.a, .int .u64 (x.w : Int)]) (.agg #[.int .i64 y.a, .int .u64 (y.w : Int)])).run Tryd.prog w = _ := run_equalIn_struct w 9999 104 _ _ (by kernel_rfl) (by kernel_rfl)
  rw [e]
  have hi := fun a b => run_equalIn_int (P := Tryd.prog) w 9998 3 .i64 .i64 a b Tryd.underlying3
  have hu := fun a b => run_equalIn_int (P := Tryd.prog) w 9998 26 .u64 .u64 a b Tryd.underlying26
  simp [Program.fieldsOf, Tryd.underlying104, Op.eqFields, part, hi, hu]
  obtain ⟨xa, xw⟩ := x
  obtain ⟨ya, yw⟩ := y
  by_cases h1 : xa = ya <;> by_cases h2 : xw = yw <;> simp [h1, h2] <;> omega
theorem wq_neB {n : Nat} {ops : Array Oper} {rest : List Oper} {o : Oper} {F : Fm} {K : Fm → Prop} {C : World → Prop} {x y : Operand} {yt : TypeId} {u v : Blk} (hop : o.op = .binOp .neq 104 x y yt) (hx : ev F x = .agg #[.int .i64 u.a, .int .u64 (u.w : Int)]) (hy : ev F y = .agg #[.int .i64 v.a, .int .u64 (v.w : Int)]) (hg : o.guard = none) {d : Nat} (hd : o.dst = some d) (hn : Nat.blt d n = true)
    (k : wq Tryd.prog n ops C rest K (upd F d (.bool (!decide (u = v))))) : wq Tryd.prog n ops C (o :: rest) K F :=
  wq_val hg hd hn (fun w' _ => by
    have h := eqBlk_run (w := w') u v
    have hgd : Tryd.prog.eqGuardType Tryd.prog.depth 104 = false := by kernel_rfl
    simp [execOp, hop, hx, hy, eqGuard, binOp, h, hgd]) k
theorem pClone (xs : List Blk) (A : Option Addr) (c : Nat) (w : World) (h : RowR 2 dBlk w A xs) (hl : xs.length < 1099511627776) :
    Calls Tryd.prog 75 #[.slice A xs.length c] w fun e w' => ∃ V, e = .returned V ∧ ownsB w' w.heap.size V xs ∧ Below w.heap.size w w' := by
  refine enterR (args := [.slice A xs.length c]) tabOk Tryd.func75 rfl Tryd.ntmps75 rfl ?_; conv => whnf
  (repeat' (first | (refine wl_add rfl rfl rfl rfl rfl rfl (by omega) (by omega) (run_l tabOk ?_); conv => whnf) | (refine wl_sub rfl rfl rfl rfl rfl rfl (by omega) (by omega) (run_l tabOk ?_); conv => whnf) | (refine wl_cvA tabOk rfl rfl rfl (by simp only [inK]; omega) rfl rfl rfl (run_l tabOk ?_); conv => whnf) | (refine wl_cvB tabOk rfl rfl rfl rfl rfl rfl (run_l tabOk ?_); conv => whnf) | (refine wl_rem rfl rfl rfl rfl rfl rfl (by omega) (by omega) (fun r hr hr0 hr1 hr2 => run_l tabOk ?_); conv => whnf) | (refine wl_quo rfl rfl rfl rfl rfl rfl (by omega) (by omega) (by simp only [inK]; omega) (run_l tabOk ?_); conv => whnf) | (refine wl_mul rfl rfl rfl rfl rfl rfl (by omega) (by omega) (run_l tabOk ?_); conv => whnf) | (refine gs_dt (by first | assumption | omega) ?_; conv => whnf) | (refine gs_df (by first | assumption | omega) ?_; conv => whnf) | (refine gs_t (by assumption) ?_; conv => whnf) | (refine gs_f (by assumption) ?_; conv => whnf) | (refine gs_d (fun hg => ?_) (fun hg => ?_) <;> conv => whnf) | (refine gs_n (fun hg => ?_) (fun hg => ?_) <;> conv => whnf) | (refine gs_nb (fun hg => ?_) (fun hg => ?_) <;> conv => whnf) | (refine gs_b (fun hg => ?_) (fun hg => ?_) <;> conv => whnf) | refine fin1 rfl rfl ?_))
  refine wl_snil tabOk 104 2 rfl rfl rfl rfl rfl rfl (run_l tabOk ?_); conv => whnf
  cases A with
  | none =>
    have hx : xs = [] := by
      cases xs with
      | nil => rfl
      | cons a l => obtain ⟨_, _, e, _⟩ := h.2 0 (by simp); cases e
    subst hx
    conv => whnf
    (repeat' (first | (refine wl_add rfl rfl rfl rfl rfl rfl (by omega) (by omega) (run_l tabOk ?_); conv => whnf) | (refine wl_sub rfl rfl rfl rfl rfl rfl (by omega) (by omega) (run_l tabOk ?_); conv => whnf) | (refine wl_cvA tabOk rfl rfl rfl (by simp only [inK]; omega) rfl rfl rfl (run_l tabOk ?_); conv => whnf) | (refine wl_cvB tabOk rfl rfl rfl rfl rfl rfl (run_l tabOk ?_); conv => whnf) | (refine wl_rem rfl rfl rfl rfl rfl rfl (by omega) (by omega) (fun r hr hr0 hr1 hr2 => run_l tabOk ?_); conv => whnf) | (refine wl_quo rfl rfl rfl rfl rfl rfl (by omega) (by omega) (by simp only [inK]; omega) (run_l tabOk ?_); conv => whnf) | (refine wl_mul rfl rfl rfl rfl rfl rfl (by omega) (by omega) (run_l tabOk ?_); conv => whnf) | (refine gs_dt (by first | assumption | omega) ?_; conv => whnf) | (refine gs_df (by first | assumption | omega) ?_; conv => whnf) | (refine gs_t (by assumption) ?_; conv => whnf) | (refine gs_f (by assumption) ?_; conv => whnf) | (refine gs_d (fun hg => ?_) (fun hg => ?_) <;> conv => whnf) | (refine gs_n (fun hg => ?_) (fun hg => ?_) <;> conv => whnf) | (refine gs_nb (fun hg => ?_) (fun hg => ?_) <;> conv => whnf) | (refine gs_b (fun hg => ?_) (fun hg => ?_) <;> conv => whnf) | refine fin1 rfl rfl ?_))
    exact ⟨_, rfl, own_nil .., Below.refl _ _⟩
  | some ad =>
    conv => whnf
    (repeat' (first | (refine wl_add rfl rfl rfl rfl rfl rfl (by omega) (by omega) (run_l tabOk ?_); conv => whnf) | (refine wl_sub rfl rfl rfl rfl rfl rfl (by omega) (by omega) (run_l tabOk ?_); conv => whnf) | (refine wl_cvA tabOk rfl rfl rfl (by simp only [inK]; omega) rfl rfl rfl (run_l tabOk ?_); conv => whnf) | (refine wl_cvB tabOk rfl rfl rfl rfl rfl rfl (run_l tabOk ?_); conv => whnf) | (refine wl_rem rfl rfl rfl rfl rfl rfl (by omega) (by omega) (fun r hr hr0 hr1 hr2 => run_l tabOk ?_); conv => whnf) | (refine wl_quo rfl rfl rfl rfl rfl rfl (by omega) (by omega) (by simp only [inK]; omega) (run_l tabOk ?_); conv => whnf) | (refine wl_mul rfl rfl rfl rfl rfl rfl (by omega) (by omega) (run_l tabOk ?_); conv => whnf) | (refine gs_dt (by first | assumption | omega) ?_; conv => whnf) | (refine gs_df (by first | assumption | omega) ?_; conv => whnf) | (refine gs_t (by assumption) ?_; conv => whnf) | (refine gs_f (by assumption) ?_; conv => whnf) | (refine gs_d (fun hg => ?_) (fun hg => ?_) <;> conv => whnf) | (refine gs_n (fun hg => ?_) (fun hg => ?_) <;> conv => whnf) | (refine gs_nb (fun hg => ?_) (fun hg => ?_) <;> conv => whnf) | (refine gs_b (fun hg => ?_) (fun hg => ?_) <;> conv => whnf) | refine fin1 rfl rfl ?_))
    refine wl_bs tabOk 104 2 rfl rfl rfl rfl rfl rfl rfl rfl rfl rfl ?_
    intro g w1 hn1
    refine run_l tabOk ?_
    conv => whnf
    have ho : w1.ownsRow w.heap.size 104 2 (.slice (some ⟨g, 0, none⟩) 0 0) 0 [] := ⟨by simp, .inr ⟨g, 0, _, rfl, Nat.le_of_eq hn1.at_.symm, hn1.blk, Nat.le_refl _, by decide, by simp, by simp⟩⟩
    (repeat' (first | (refine wl_add rfl rfl rfl rfl rfl rfl (by omega) (by omega) (run_l tabOk ?_); conv => whnf) | (refine wl_sub rfl rfl rfl rfl rfl rfl (by omega) (by omega) (run_l tabOk ?_); conv => whnf) | (refine wl_cvA tabOk rfl rfl rfl (by simp only [inK]; omega) rfl rfl rfl (run_l tabOk ?_); conv => whnf) | (refine wl_cvB tabOk rfl rfl rfl rfl rfl rfl (run_l tabOk ?_); conv => whnf) | (refine wl_rem rfl rfl rfl rfl rfl rfl (by omega) (by omega) (fun r hr hr0 hr1 hr2 => run_l tabOk ?_); conv => whnf) | (refine wl_quo rfl rfl rfl rfl rfl rfl (by omega) (by omega) (by simp only [inK]; omega) (run_l tabOk ?_); conv => whnf) | (refine wl_mul rfl rfl rfl rfl rfl rfl (by omega) (by omega) (run_l tabOk ?_); conv => whnf) | (refine gs_dt (by first | assumption | omega) ?_; conv => whnf) | (refine gs_df (by first | assumption | omega) ?_; conv => whnf) | (refine gs_t (by assumption) ?_; conv => whnf) | (refine gs_f (by assumption) ?_; conv => whnf) | (refine gs_d (fun hg => ?_) (fun hg => ?_) <;> conv => whnf) | (refine gs_n (fun hg => ?_) (fun hg => ?_) <;> conv => whnf) | (refine gs_nb (fun hg => ?_) (fun hg => ?_) <;> conv => whnf) | (refine gs_b (fun hg => ?_) (fun hg => ?_) <;> conv => whnf) | refine fin1 rfl rfl ?_))
    refine wl_apr tabOk 104 2 16 ho (h.up stays_Blk hn1.below) one_Blk rfl rfl rfl rfl rfl rfl rfl rfl rfl rfl rfl (by omega) (by omega) (by have := hn1.size; omega) ?_
    intro A2 c2 w2 news hel hown hgr hob
    refine run_l tabOk ?_
    conv => whnf
    (repeat' (first | (refine wl_add rfl rfl rfl rfl rfl rfl (by omega) (by omega) (run_l tabOk ?_); conv => whnf) | (refine wl_sub rfl rfl rfl rfl rfl rfl (by omega) (by omega) (run_l tabOk ?_); conv => whnf) | (refine wl_cvA tabOk rfl rfl rfl (by simp only [inK]; omega) rfl rfl rfl (run_l tabOk ?_); conv => whnf) | (refine wl_cvB tabOk rfl rfl rfl rfl rfl rfl (run_l tabOk ?_); conv => whnf) | (refine wl_rem rfl rfl rfl rfl rfl rfl (by omega) (by omega) (fun r hr hr0 hr1 hr2 => run_l tabOk ?_); conv => whnf) | (refine wl_quo rfl rfl rfl rfl rfl rfl (by omega) (by omega) (by simp only [inK]; omega) (run_l tabOk ?_); conv => whnf) | (refine wl_mul rfl rfl rfl rfl rfl rfl (by omega) (by omega) (run_l tabOk ?_); conv => whnf) | (refine gs_dt (by first | assumption | omega) ?_; conv => whnf) | (refine gs_df (by first | assumption | omega) ?_; conv => whnf) | (refine gs_t (by assumption) ?_; conv => whnf) | (refine gs_f (by assumption) ?_; conv => whnf) | (refine gs_d (fun hg => ?_) (fun hg => ?_) <;> conv => whnf) | (refine gs_n (fun hg => ?_) (fun hg => ?_) <;> conv => whnf) | (refine gs_nb (fun hg => ?_) (fun hg => ?_) <;> conv => whnf) | (refine gs_b (fun hg => ?_) (fun hg => ?_) <;> conv => whnf) | refine fin1 rfl rfl ?_))
    have hB2 : Below w.heap.size w w2 := hn1.below.grown hgr (by have := hn1.size; omega) (fun k hk => by cases hk; exact Nat.le_of_eq hn1.at_.symm)
    rw [elemsB_eq hel] at hown
    simp only [Nat.zero_add, List.nil_append] at hown ⊢
    exact ⟨_, rfl, hown, hB2⟩
/-- A copy: of its own. -/
theorem pCopy {base g : Nat} {w : World} {bs : List Blk} {fp : List Nat} (hP : PSet base g w bs fp) (hl : bs.length < 1099511627776) :
    Calls Tryd.prog 61 #[.pointer (some ⟨g, 0, none⟩)] w fun e w' => ∃ g' fp', e = .returned (.pointer (some ⟨g', 0, none⟩)) ∧ OwnS w g' w' bs fp' := by
  refine enterR (args := [.pointer (some ⟨g, 0, none⟩)]) tabOk Tryd.func61 rfl Tryd.ntmps61 rfl ?_; conv => whnf
  refine wl_C fn76 (pList hP) rfl rfl rfl rfl rfl rfl rfl ?_
  rintro _ w1 ⟨A, c, rfl, _, _, h1, hB1⟩
  refine ⟨_, rfl, run_l tabOk ?_⟩
  conv => whnf
  refine wl_C fn75 (pClone bs A c w1 (h1.up stays_Blk hB1) hl) rfl rfl rfl rfl rfl rfl rfl ?_
  rintro _ w2 ⟨V, rfl, ho, hB2⟩
  obtain ⟨A2, c2, rfl, _, _⟩ := ho.row
  refine ⟨_, rfl, run_l tabOk ?_⟩
  conv => whnf
  (repeat' (first | (refine wl_add rfl rfl rfl rfl rfl rfl (by omega) (by omega) (run_l tabOk ?_); conv => whnf) | (refine wl_sub rfl rfl rfl rfl rfl rfl (by omega) (by omega) (run_l tabOk ?_); conv => whnf) | (refine wl_cvA tabOk rfl rfl rfl (by simp only [inK]; omega) rfl rfl rfl (run_l tabOk ?_); conv => whnf) | (refine wl_cvB tabOk rfl rfl rfl rfl rfl rfl (run_l tabOk ?_); conv => whnf) | (refine wl_rem rfl rfl rfl rfl rfl rfl (by omega) (by omega) (fun r hr hr0 hr1 hr2 => run_l tabOk ?_); conv => whnf) | (refine wl_quo rfl rfl rfl rfl rfl rfl (by omega) (by omega) (by simp only [inK]; omega) (run_l tabOk ?_); conv => whnf) | (refine wl_mul rfl rfl rfl rfl rfl rfl (by omega) (by omega) (run_l tabOk ?_); conv => whnf) | (refine gs_dt (by first | assumption | omega) ?_; conv => whnf) | (refine gs_df (by first | assumption | omega) ?_; conv => whnf) | (refine gs_t (by assumption) ?_; conv => whnf) | (refine gs_f (by assumption) ?_; conv => whnf) | (refine gs_d (fun hg => ?_) (fun hg => ?_) <;> conv => whnf) | (refine gs_n (fun hg => ?_) (fun hg => ?_) <;> conv => whnf) | (refine gs_nb (fun hg => ?_) (fun hg => ?_) <;> conv => whnf) | (refine gs_b (fun hg => ?_) (fun hg => ?_) <;> conv => whnf) | refine fin1 rfl rfl ?_))
  refine wl_box rfl rfl rfl rfl rfl rfl ?_
  intro g3 w3 hn3
  refine run_l tabOk ?_
  conv => whnf
  (repeat' (first | (refine wl_add rfl rfl rfl rfl rfl rfl (by omega) (by omega) (run_l tabOk ?_); conv => whnf) | (refine wl_sub rfl rfl rfl rfl rfl rfl (by omega) (by omega) (run_l tabOk ?_); conv => whnf) | (refine wl_cvA tabOk rfl rfl rfl (by simp only [inK]; omega) rfl rfl rfl (run_l tabOk ?_); conv => whnf) | (refine wl_cvB tabOk rfl rfl rfl rfl rfl rfl (run_l tabOk ?_); conv => whnf) | (refine wl_rem rfl rfl rfl rfl rfl rfl (by omega) (by omega) (fun r hr hr0 hr1 hr2 => run_l tabOk ?_); conv => whnf) | (refine wl_quo rfl rfl rfl rfl rfl rfl (by omega) (by omega) (by simp only [inK]; omega) (run_l tabOk ?_); conv => whnf) | (refine wl_mul rfl rfl rfl rfl rfl rfl (by omega) (by omega) (run_l tabOk ?_); conv => whnf) | (refine gs_dt (by first | assumption | omega) ?_; conv => whnf) | (refine gs_df (by first | assumption | omega) ?_; conv => whnf) | (refine gs_t (by assumption) ?_; conv => whnf) | (refine gs_f (by assumption) ?_; conv => whnf) | (refine gs_d (fun hg => ?_) (fun hg => ?_) <;> conv => whnf) | (refine gs_n (fun hg => ?_) (fun hg => ?_) <;> conv => whnf) | (refine gs_nb (fun hg => ?_) (fun hg => ?_) <;> conv => whnf) | (refine gs_b (fun hg => ?_) (fun hg => ?_) <;> conv => whnf) | refine fin1 rfl rfl ?_))
  have hs1 := hB1.size
  have hs2 := hB2.size
  have ho3 : ownsB w3 w.heap.size (.slice A2 bs.length c2) bs := (ho.lower hs1).keep fun b e => hn3.below.block b (ho.lt b e).2
  exact ⟨g3, _, rfl, ⟨⟨_, hn3.blk, ho3, rfl, fun e => by have := (ho.lt g3 e).2; have := hn3.at_; omega⟩, by have := hn3.at_; omega, hP.wf⟩, bup (bup hB1 hB2) hn3.below⟩
/-- A copy of nil. -/
theorem pCopyN (w : World) : Calls Tryd.prog 61 #[.pointer none] w fun e w' => ∃ g' fp', e = .returned (.pointer (some ⟨g', 0, none⟩)) ∧ OwnS w g' w' [] fp' := by
  refine enterR (args := [.pointer none]) tabOk Tryd.func61 rfl Tryd.ntmps61 rfl ?_; conv => whnf
  refine wl_C fn76 (pListN w) rfl rfl rfl rfl rfl rfl rfl ?_
  rintro _ w1 ⟨rfl, hB1⟩
  refine ⟨_, rfl, run_l tabOk ?_⟩
  conv => whnf
  refine wl_C fn75 (pClone [] none 0 w1 (RowR.nil ..) (by simp)) rfl rfl rfl rfl rfl rfl rfl ?_
  rintro _ w2 ⟨V, rfl, ho, hB2⟩
  obtain ⟨A2, c2, rfl, _, _⟩ := ho.row
  refine ⟨_, rfl, run_l tabOk ?_⟩
  conv => whnf
  (repeat' (first | (refine wl_add rfl rfl rfl rfl rfl rfl (by omega) (by omega) (run_l tabOk ?_); conv => whnf) | (refine wl_sub rfl rfl rfl rfl rfl rfl (by omega) (by omega) (run_l tabOk ?_); conv => whnf) | (refine wl_cvA tabOk rfl rfl rfl (by simp only [inK]; omega) rfl rfl rfl (run_l tabOk ?_); conv => whnf) | (refine wl_cvB tabOk rfl rfl rfl rfl rfl rfl (run_l tabOk ?_); conv => whnf) | (refine wl_rem rfl rfl rfl rfl rfl rfl (by omega) (by omega) (fun r hr hr0 hr1 hr2 => run_l tabOk ?_); conv => whnf) | (refine wl_quo rfl rfl rfl rfl rfl rfl (by omega) (by omega) (by simp only [inK]; omega) (run_l tabOk ?_); conv => whnf) | (refine wl_mul rfl rfl rfl rfl rfl rfl (by omega) (by omega) (run_l tabOk ?_); conv => whnf) | (refine gs_dt (by first | assumption | omega) ?_; conv => whnf) | (refine gs_df (by first | assumption | omega) ?_; conv => whnf) | (refine gs_t (by assumption) ?_; conv => whnf) | (refine gs_f (by assumption) ?_; conv => whnf) | (refine gs_d (fun hg => ?_) (fun hg => ?_) <;> conv => whnf) | (refine gs_n (fun hg => ?_) (fun hg => ?_) <;> conv => whnf) | (refine gs_nb (fun hg => ?_) (fun hg => ?_) <;> conv => whnf) | (refine gs_b (fun hg => ?_) (fun hg => ?_) <;> conv => whnf) | refine fin1 rfl rfl ?_))
  refine wl_box rfl rfl rfl rfl rfl rfl ?_
  intro g3 w3 hn3
  refine run_l tabOk ?_
  conv => whnf
  (repeat' (first | (refine wl_add rfl rfl rfl rfl rfl rfl (by omega) (by omega) (run_l tabOk ?_); conv => whnf) | (refine wl_sub rfl rfl rfl rfl rfl rfl (by omega) (by omega) (run_l tabOk ?_); conv => whnf) | (refine wl_cvA tabOk rfl rfl rfl (by simp only [inK]; omega) rfl rfl rfl (run_l tabOk ?_); conv => whnf) | (refine wl_cvB tabOk rfl rfl rfl rfl rfl rfl (run_l tabOk ?_); conv => whnf) | (refine wl_rem rfl rfl rfl rfl rfl rfl (by omega) (by omega) (fun r hr hr0 hr1 hr2 => run_l tabOk ?_); conv => whnf) | (refine wl_quo rfl rfl rfl rfl rfl rfl (by omega) (by omega) (by simp only [inK]; omega) (run_l tabOk ?_); conv => whnf) | (refine wl_mul rfl rfl rfl rfl rfl rfl (by omega) (by omega) (run_l tabOk ?_); conv => whnf) | (refine gs_dt (by first | assumption | omega) ?_; conv => whnf) | (refine gs_df (by first | assumption | omega) ?_; conv => whnf) | (refine gs_t (by assumption) ?_; conv => whnf) | (refine gs_f (by assumption) ?_; conv => whnf) | (refine gs_d (fun hg => ?_) (fun hg => ?_) <;> conv => whnf) | (refine gs_n (fun hg => ?_) (fun hg => ?_) <;> conv => whnf) | (refine gs_nb (fun hg => ?_) (fun hg => ?_) <;> conv => whnf) | (refine gs_b (fun hg => ?_) (fun hg => ?_) <;> conv => whnf) | refine fin1 rfl rfl ?_))
  have hs1 := hB1.size
  have hs2 := hB2.size
  have ho3 : ownsB w3 w.heap.size (.slice A2 ([] : List Blk).length c2) [] := (ho.lower hs1).keep fun b e => hn3.below.block b (ho.lt b e).2
  exact ⟨g3, _, rfl, ⟨⟨_, hn3.blk, ho3, rfl, fun e => by have := (ho.lt g3 e).2; have := hn3.at_; omega⟩, by have := hn3.at_; omega, WFB.nil⟩, bup (bup hB1 hB2) hn3.below⟩
end Go.Proofs.YtkjbkalakafnlaaDoor

/- system.Right: what it answers. -/
namespace Go.Proofs.YtkjbkalakafnlaaDoor
open Go.RowKit
set_option linter.unusedVariables false
set_option linter.unusedSimpArgs false
set_option maxRecDepth 100000
theorem within_any (a b c : Int) (w : World) :
    Calls Tryd.prog 70 #[.int .i64 a, .int .i64 b, .int .i64 c] w fun e w' => e = .returned (.bool (inR a b c)) ∧ w = w' := by
  refine enterR (args := [.int .i64 a, .int .i64 b, .int .i64 c]) tabOk Tryd.func70 rfl Tryd.ntmps70 rfl ?_; conv => whnf
  (repeat' (first | (refine wl_add rfl rfl rfl rfl rfl rfl (by omega) (by omega) (run_l tabOk ?_); conv => whnf) | (refine wl_sub rfl rfl rfl rfl rfl rfl (by omega) (by omega) (run_l tabOk ?_); conv => whnf) | (refine gs_dt (by first | assumption | omega) ?_; conv => whnf) | (refine gs_df (by first | assumption | omega) ?_; conv => whnf) | (refine gs_t (by assumption) ?_; conv => whnf) | (refine gs_f (by assumption) ?_; conv => whnf) | (refine gs_d (fun hg => ?_) (fun hg => ?_) <;> conv => whnf) | (refine gs_n (fun hg => ?_) (fun hg => ?_) <;> conv => whnf) | (refine gs_nb (fun hg => ?_) (fun hg => ?_) <;> conv => whnf) | (refine gs_b (fun hg => ?_) (fun hg => ?_) <;> conv => whnf) | refine fin1 rfl rfl ?_))
  all_goals exact ⟨retB (by simp_all [inR]; try omega), rfl⟩
set_option maxHeartbeats 1000000
theorem sysCell (x : Cell) (vars : Int) (B : Option Addr) (c : Nat) (w : World) (h : RI w B x.args) :
    Calls Tryd.prog 56 #[.agg #[.bool x.fn, .int .i64 x.v, .slice B x.args.length c], .int .i64 vars] w fun e w' => e = .returned (.bool (cellOk vars x)) ∧ Below w.heap.size w w' := by
  have L1 := h.1
  refine enterR (args := [.agg #[.bool x.fn, .int .i64 x.v, .slice B x.args.length c], .int .i64 vars]) tabOk Tryd.func56 rfl Tryd.ntmps56 rfl ?_; conv => whnf
  refine wl_box rfl rfl rfl rfl rfl rfl ?_
  intro g w1 hn
  have hb := hn.blk
  have hB := hn.below
  refine run_l tabOk ?_
  conv => whnf
  (repeat' (first | (refine wl_Lg tabOk hb rfl rfl rfl rfl rfl rfl rfl (run_l tabOk ?_); conv => whnf) | (refine wl_add rfl rfl rfl rfl rfl rfl (by omega) (by omega) (run_l tabOk ?_); conv => whnf) | (refine wl_sub rfl rfl rfl rfl rfl rfl (by omega) (by omega) (run_l tabOk ?_); conv => whnf) | (refine gs_dt (by first | assumption | omega) ?_; conv => whnf) | (refine gs_df (by first | assumption | omega) ?_; conv => whnf) | (refine gs_t (by assumption) ?_; conv => whnf) | (refine gs_f (by assumption) ?_; conv => whnf) | (refine gs_d (fun hg => ?_) (fun hg => ?_) <;> conv => whnf) | (refine gs_n (fun hg => ?_) (fun hg => ?_) <;> conv => whnf) | (refine gs_nb (fun hg => ?_) (fun hg => ?_) <;> conv => whnf) | (refine gs_b (fun hg => ?_) (fun hg => ?_) <;> conv => whnf) | refine fin1 rfl rfl ?_))
  refine lp_loop tabOk (X := Nat) (fun k => [(1, .int .i64 vars), (2, .pointer (some ⟨g, 0, none⟩)), (8, .slice B x.args.length c), (9, .int .i64 x.args.length), (10, .int .i64 k)])
    (fun k wr => k ≤ x.args.length ∧ (∀ j, j < k → inR x.args[j]! 0 vars = true) ∧ wr = w1) (fun k => x.args.length - k) 0 ⟨rfl, rfl, rfl, rfl, rfl, trivial⟩ ⟨by omega, by omega, rfl⟩ ?_
  rintro k G _ ⟨hk, hok, rfl⟩
  conv => whnf
  by_cases hlt : k < x.args.length
  · obtain ⟨y, ad, hy, rfl, f0, _⟩ := intsE (h.up (stays_I _) hB) k hlt
    (repeat' (first | (refine wl_Lg tabOk hb rfl rfl rfl rfl rfl rfl rfl (run_l tabOk ?_); conv => whnf) | (refine wl_L tabOk rfl rfl rfl rfl rfl rfl f0 (run_l tabOk ?_); conv => whnf) | (refine wl_Xn tabOk 3 1 rfl rfl rfl rfl rfl rfl rfl (by omega) (run_l tabOk ?_); conv => whnf) | ((refine wl_C fn70 (within_any _ _ _ _) rfl rfl rfl rfl rfl rfl rfl ?_); rintro _ _ ⟨rfl, rfl⟩; refine ⟨_, rfl, run_l tabOk ?_⟩; conv => whnf) | (refine wl_add rfl rfl rfl rfl rfl rfl (by omega) (by omega) (run_l tabOk ?_); conv => whnf) | (refine wl_sub rfl rfl rfl rfl rfl rfl (by omega) (by omega) (run_l tabOk ?_); conv => whnf) | (refine gs_dt (by first | assumption | omega) ?_; conv => whnf) | (refine gs_df (by first | assumption | omega) ?_; conv => whnf) | (refine gs_t (by assumption) ?_; conv => whnf) | (refine gs_f (by assumption) ?_; conv => whnf) | (refine gs_d (fun hg => ?_) (fun hg => ?_) <;> conv => whnf) | (refine gs_n (fun hg => ?_) (fun hg => ?_) <;> conv => whnf) | (refine gs_nb (fun hg => ?_) (fun hg => ?_) <;> conv => whnf) | (refine gs_b (fun hg => ?_) (fun hg => ?_) <;> conv => whnf) | refine fin1 rfl rfl ?_))
    all_goals try exact ⟨retB (by rw [cell_arg hlt (by rw [hy.out]; assumption)]), hB⟩
    all_goals exact ⟨k + 1, ⟨rfl, rfl, rfl, rfl, rfl, trivial⟩, ⟨by omega, all_succ hok (by rw [hy.out]; assumption), rfl⟩, by omega⟩
  · have hall := all_true (p := fun n => inR n 0 vars) (all_ge hok hlt)
    (repeat' (first | (refine wl_Lg tabOk hb rfl rfl rfl rfl rfl rfl rfl (run_l tabOk ?_); conv => whnf) | ((refine wl_C fn70 (within_any _ _ _ _) rfl rfl rfl rfl rfl rfl rfl ?_); rintro _ _ ⟨rfl, rfl⟩; refine ⟨_, rfl, run_l tabOk ?_⟩; conv => whnf) | (refine wl_add rfl rfl rfl rfl rfl rfl (by omega) (by omega) (run_l tabOk ?_); conv => whnf) | (refine wl_sub rfl rfl rfl rfl rfl rfl (by omega) (by omega) (run_l tabOk ?_); conv => whnf) | (refine gs_dt (by first | assumption | omega) ?_; conv => whnf) | (refine gs_df (by first | assumption | omega) ?_; conv => whnf) | (refine gs_t (by assumption) ?_; conv => whnf) | (refine gs_f (by assumption) ?_; conv => whnf) | (refine gs_d (fun hg => ?_) (fun hg => ?_) <;> conv => whnf) | (refine gs_n (fun hg => ?_) (fun hg => ?_) <;> conv => whnf) | (refine gs_nb (fun hg => ?_) (fun hg => ?_) <;> conv => whnf) | (refine gs_b (fun hg => ?_) (fun hg => ?_) <;> conv => whnf) | refine fin1 rfl rfl ?_))
    all_goals refine ⟨retB ?_, hB⟩
    all_goals unfold cellOk; rw [hall]; clear hall hok h hb hB hn; simp_all; try omega
set_option maxHeartbeats 2000000
theorem sysCon (x : Con) (vars : Int) (cells : Nat) (B : Option Addr) (c : Nat) (w : World) (h : RI w B x.args) :
    Calls Tryd.prog 57 #[.agg #[.int .u8 x.k, .int .i64 x.a, .int .i64 x.b, .slice B x.args.length c], .int .i64 vars, .int .i64 cells] w fun e w' => e = .returned (.bool (conOk vars cells x)) ∧ Below w.heap.size w w' := by
  have L1 := h.1
  refine enterR (args := [.agg #[.int .u8 x.k, .int .i64 x.a, .int .i64 x.b, .slice B x.args.length c], .int .i64 vars, .int .i64 cells]) tabOk Tryd.func57 rfl Tryd.ntmps57 rfl ?_; conv => whnf
  refine wl_box rfl rfl rfl rfl rfl rfl ?_
  intro g w1 hn
  have hb := hn.blk
  have hB := hn.below
  refine run_l tabOk ?_
  conv => whnf
  (repeat' (first | (refine wl_Lg tabOk hb rfl rfl rfl rfl rfl rfl rfl (run_l tabOk ?_); conv => whnf) | ((refine wl_C fn70 (within_any _ _ _ _) rfl rfl rfl rfl rfl rfl rfl ?_); rintro _ _ ⟨rfl, rfl⟩; refine ⟨_, rfl, run_l tabOk ?_⟩; conv => whnf) | (refine wl_add rfl rfl rfl rfl rfl rfl (by omega) (by omega) (run_l tabOk ?_); conv => whnf) | (refine wl_sub rfl rfl rfl rfl rfl rfl (by omega) (by omega) (run_l tabOk ?_); conv => whnf) | (refine gs_dt (by first | assumption | omega) ?_; conv => whnf) | (refine gs_df (by first | assumption | omega) ?_; conv => whnf) | (refine gs_t (by assumption) ?_; conv => whnf) | (refine gs_f (by assumption) ?_; conv => whnf) | (refine gs_d (fun hg => ?_) (fun hg => ?_) <;> conv => whnf) | (refine gs_n (fun hg => ?_) (fun hg => ?_) <;> conv => whnf) | (refine gs_nb (fun hg => ?_) (fun hg => ?_) <;> conv => whnf) | (refine gs_b (fun hg => ?_) (fun hg => ?_) <;> conv => whnf) | refine fin1 rfl rfl ?_))
  all_goals try (refine ⟨retB ?_, hB⟩; (first | rw [con_val1 (by omega)] | rw [con_valk (by omega) (by omega)] | rw [con_valn (by omega)]); try (clear h hb hB hn L1; simp_all; done))
  refine lp_loop tabOk (X := Nat) (fun k => [(1, .int .i64 vars), (3, .pointer (some ⟨g, 0, none⟩)), (7, .int .i64 (-1)), (53, .slice B x.args.length c), (54, .int .i64 x.args.length), (55, .int .i64 k)])
    (fun k wr => k ≤ x.args.length ∧ (∀ j, j < k → inR x.args[j]! (-1) vars = true) ∧ wr = w1) (fun k => x.args.length - k) 0 ⟨rfl, rfl, rfl, rfl, rfl, rfl, trivial⟩ ⟨by omega, by omega, rfl⟩ ?_
  rintro k G _ ⟨hk, hok, rfl⟩
  conv => whnf
  by_cases hlt : k < x.args.length
  · obtain ⟨y, ad, hy, rfl, f0, _⟩ := intsE (h.up (stays_I _) hB) k hlt
    (repeat' (first | (refine wl_Lg tabOk hb rfl rfl rfl rfl rfl rfl rfl (run_l tabOk ?_); conv => whnf) | (refine wl_L tabOk rfl rfl rfl rfl rfl rfl f0 (run_l tabOk ?_); conv => whnf) | (refine wl_Xn tabOk 3 1 rfl rfl rfl rfl rfl rfl rfl (by omega) (run_l tabOk ?_); conv => whnf) | ((refine wl_C fn70 (within_any _ _ _ _) rfl rfl rfl rfl rfl rfl rfl ?_); rintro _ _ ⟨rfl, rfl⟩; refine ⟨_, rfl, run_l tabOk ?_⟩; conv => whnf) | (refine wl_add rfl rfl rfl rfl rfl rfl (by omega) (by omega) (run_l tabOk ?_); conv => whnf) | (refine wl_sub rfl rfl rfl rfl rfl rfl (by omega) (by omega) (run_l tabOk ?_); conv => whnf) | (refine gs_dt (by first | assumption | omega) ?_; conv => whnf) | (refine gs_df (by first | assumption | omega) ?_; conv => whnf) | (refine gs_t (by assumption) ?_; conv => whnf) | (refine gs_f (by assumption) ?_; conv => whnf) | (refine gs_d (fun hg => ?_) (fun hg => ?_) <;> conv => whnf) | (refine gs_n (fun hg => ?_) (fun hg => ?_) <;> conv => whnf) | (refine gs_nb (fun hg => ?_) (fun hg => ?_) <;> conv => whnf) | (refine gs_b (fun hg => ?_) (fun hg => ?_) <;> conv => whnf) | refine fin1 rfl rfl ?_))
    all_goals try exact ⟨retB (by rw [con_arg hlt (by rw [hy.out]; assumption)]), hB⟩
    all_goals exact ⟨k + 1, ⟨rfl, rfl, rfl, rfl, rfl, rfl, trivial⟩, ⟨by omega, all_succ hok (by rw [hy.out]; assumption), rfl⟩, by omega⟩
  · have hall := all_true (p := fun n => inR n (-1) vars) (all_ge hok hlt)
    (repeat' (first | (refine wl_Lg tabOk hb rfl rfl rfl rfl rfl rfl rfl (run_l tabOk ?_); conv => whnf) | ((refine wl_C fn70 (within_any _ _ _ _) rfl rfl rfl rfl rfl rfl rfl ?_); rintro _ _ ⟨rfl, rfl⟩; refine ⟨_, rfl, run_l tabOk ?_⟩; conv => whnf) | (refine wl_add rfl rfl rfl rfl rfl rfl (by omega) (by omega) (run_l tabOk ?_); conv => whnf) | (refine wl_sub rfl rfl rfl rfl rfl rfl (by omega) (by omega) (run_l tabOk ?_); conv => whnf) | (refine gs_dt (by first | assumption | omega) ?_; conv => whnf) | (refine gs_df (by first | assumption | omega) ?_; conv => whnf) | (refine gs_t (by assumption) ?_; conv => whnf) | (refine gs_f (by assumption) ?_; conv => whnf) | (refine gs_d (fun hg => ?_) (fun hg => ?_) <;> conv => whnf) | (refine gs_n (fun hg => ?_) (fun hg => ?_) <;> conv => whnf) | (refine gs_nb (fun hg => ?_) (fun hg => ?_) <;> conv => whnf) | (refine gs_b (fun hg => ?_) (fun hg => ?_) <;> conv => whnf) | refine fin1 rfl rfl ?_))
    all_goals (refine ⟨retB ?_, hB⟩; rw [con_val5 (by omega) hall]; clear hall hok h hb hB hn L1; simp_all; done)
theorem sysRight (s : Sys) (A1 A2 : Option Addr) (c1 c2 : Nat) (w : World) (h1 : RCells w A1 s.cells) (h2 : RCons w A2 s.cons) :
    Calls Tryd.prog 46 #[.agg #[.int .i64 s.vars, .slice A1 s.cells.length c1, .slice A2 s.cons.length c2]] w fun e w' => e = .returned (.bool (rightB s)) ∧ Below w.heap.size w w' := by
  have L1 := h1.1
  have L2 := h2.1
  refine enterR (args := [.agg #[.int .i64 s.vars, .slice A1 s.cells.length c1, .slice A2 s.cons.length c2]]) tabOk Tryd.func46 rfl Tryd.ntmps46 rfl ?_; conv => whnf
  refine wl_box rfl rfl rfl rfl rfl rfl ?_
  intro g w1 hn
  have hb := hn.blk
  refine run_l tabOk ?_
  conv => whnf
  (repeat' (first | (refine wl_Lg tabOk hb rfl rfl rfl rfl rfl rfl rfl (run_l tabOk ?_); conv => whnf) | (refine wl_add rfl rfl rfl rfl rfl rfl (by omega) (by omega) (run_l tabOk ?_); conv => whnf) | (refine wl_sub rfl rfl rfl rfl rfl rfl (by omega) (by omega) (run_l tabOk ?_); conv => whnf) | (refine gs_dt (by first | assumption | omega) ?_; conv => whnf) | (refine gs_df (by first | assumption | omega) ?_; conv => whnf) | (refine gs_t (by assumption) ?_; conv => whnf) | (refine gs_f (by assumption) ?_; conv => whnf) | (refine gs_d (fun hg => ?_) (fun hg => ?_) <;> conv => whnf) | (refine gs_n (fun hg => ?_) (fun hg => ?_) <;> conv => whnf) | (refine gs_nb (fun hg => ?_) (fun hg => ?_) <;> conv => whnf) | (refine gs_b (fun hg => ?_) (fun hg => ?_) <;> conv => whnf) | refine fin1 rfl rfl ?_))
  all_goals try exact ⟨retB (right_big (by omega)).symm, hn.below⟩
  refine lp_loop tabOk (X := Nat) (fun k => [(1, .pointer (some ⟨g, 0, none⟩)), (28, .slice A1 s.cells.length c1), (29, .int .i64 s.cells.length), (30, .int .i64 k)])
    (fun k wr => k ≤ s.cells.length ∧ (∀ j, j < k → cellOk s.vars s.cells[j]! = true) ∧ Below w.heap.size w wr ∧ wr.heap[g]? = some (.cells #[.int .i64 s.vars, .slice A1 s.cells.length c1, .slice A2 s.cons.length c2] 54 (0, 0)))
    (fun k => s.cells.length - k) 0 ⟨rfl, rfl, rfl, rfl, trivial⟩ ⟨by omega, by omega, hn.below, hb⟩ ?_
  clear hb hn
  intro k G wr ⟨hk, hok, hB, hb⟩
  conv => whnf
  by_cases hlt : k < s.cells.length
  · obtain ⟨x, ad, B, c, hx, rfl, e0, e1, e2, _⟩ := cellsE (h1.up stays_Cell hB) k hlt
    (repeat' (first | (refine wl_Lg tabOk hb rfl rfl rfl rfl rfl rfl rfl (run_l tabOk ?_); conv => whnf) | (refine wl_Xn tabOk 71 3 rfl rfl rfl rfl rfl rfl rfl (by omega) (run_l tabOk ?_); conv => whnf) | (refine wl_La tabOk e0 rfl rfl rfl rfl rfl rfl (run_l tabOk ?_); conv => whnf) | (refine wl_add rfl rfl rfl rfl rfl rfl (by omega) (by omega) (run_l tabOk ?_); conv => whnf) | (refine wl_sub rfl rfl rfl rfl rfl rfl (by omega) (by omega) (run_l tabOk ?_); conv => whnf) | (refine gs_dt (by first | assumption | omega) ?_; conv => whnf) | (refine gs_df (by first | assumption | omega) ?_; conv => whnf) | (refine gs_t (by assumption) ?_; conv => whnf) | (refine gs_f (by assumption) ?_; conv => whnf) | (refine gs_d (fun hg => ?_) (fun hg => ?_) <;> conv => whnf) | (refine gs_n (fun hg => ?_) (fun hg => ?_) <;> conv => whnf) | (refine gs_nb (fun hg => ?_) (fun hg => ?_) <;> conv => whnf) | (refine gs_b (fun hg => ?_) (fun hg => ?_) <;> conv => whnf) | refine fin1 rfl rfl ?_))
    refine wl_alloc tabOk rfl rfl rfl rfl rfl rfl ?_
    intro g2 w2 hn2
    refine wl_Sa tabOk hn2.blk rfl rfl rfl rfl rfl (by simp [Value.oneCell']) rfl rfl ?_
    intro w3 hp
    have hg : g ≠ g2 := by have := blk_lt hb; have := hn2.at_; omega
    have hb3 := hp.old (hn2.old hb) hg
    have hc3 := hp.blk
    have hB3 : Below wr.heap.size wr w3 := hp.below hn2.below (by have := hn2.at_; omega) (by have := hn2.size; omega)
    have hBw := bup hB hB3
    refine run_l tabOk ?_
    conv => whnf
    (repeat' (first | (refine wl_Lg tabOk hb3 rfl rfl rfl rfl rfl rfl rfl (run_l tabOk ?_); conv => whnf) | (refine wl_Lg tabOk hc3 rfl rfl rfl rfl rfl rfl rfl (run_l tabOk ?_); conv => whnf) | (refine wl_Lag tabOk hc3 rfl rfl rfl rfl rfl rfl (run_l tabOk ?_); conv => whnf) | (refine wl_add rfl rfl rfl rfl rfl rfl (by omega) (by omega) (run_l tabOk ?_); conv => whnf) | (refine wl_sub rfl rfl rfl rfl rfl rfl (by omega) (by omega) (run_l tabOk ?_); conv => whnf) | (refine gs_dt (by first | assumption | omega) ?_; conv => whnf) | (refine gs_df (by first | assumption | omega) ?_; conv => whnf) | (refine gs_t (by assumption) ?_; conv => whnf) | (refine gs_f (by assumption) ?_; conv => whnf) | (refine gs_d (fun hg => ?_) (fun hg => ?_) <;> conv => whnf) | (refine gs_n (fun hg => ?_) (fun hg => ?_) <;> conv => whnf) | (refine gs_nb (fun hg => ?_) (fun hg => ?_) <;> conv => whnf) | (refine gs_b (fun hg => ?_) (fun hg => ?_) <;> conv => whnf) | refine fin1 rfl rfl ?_))
    refine wl_C fn56 (sysCell x _ _ _ _ (e2.out.up (stays_I _) hB3)) rfl rfl rfl rfl rfl rfl rfl ?_
    rintro _ w4 ⟨rfl, hB4⟩
    refine ⟨_, rfl, run_l tabOk ?_⟩
    conv => whnf
    (repeat' (first | (refine wl_add rfl rfl rfl rfl rfl rfl (by omega) (by omega) (run_l tabOk ?_); conv => whnf) | (refine wl_sub rfl rfl rfl rfl rfl rfl (by omega) (by omega) (run_l tabOk ?_); conv => whnf) | (refine gs_dt (by first | assumption | omega) ?_; conv => whnf) | (refine gs_df (by first | assumption | omega) ?_; conv => whnf) | (refine gs_t (by assumption) ?_; conv => whnf) | (refine gs_f (by assumption) ?_; conv => whnf) | (refine gs_d (fun hg => ?_) (fun hg => ?_) <;> conv => whnf) | (refine gs_n (fun hg => ?_) (fun hg => ?_) <;> conv => whnf) | (refine gs_nb (fun hg => ?_) (fun hg => ?_) <;> conv => whnf) | (refine gs_b (fun hg => ?_) (fun hg => ?_) <;> conv => whnf) | refine fin1 rfl rfl ?_))
    · exact ⟨retB (by rw [right_cell hlt (by rw [hx.out]; assumption)]), bup hBw hB4⟩
    · exact ⟨k + 1, ⟨rfl, rfl, rfl, rfl, trivial⟩, ⟨by omega, all_succ hok (by rw [hx.out]; assumption), bup hBw hB4, blk_up (bup hB3 hB4) hb⟩, by omega⟩
  · have hokA := all_ge hok hlt
    (repeat' (first | (refine wl_Lg tabOk hb rfl rfl rfl rfl rfl rfl rfl (run_l tabOk ?_); conv => whnf) | (refine wl_add rfl rfl rfl rfl rfl rfl (by omega) (by omega) (run_l tabOk ?_); conv => whnf) | (refine wl_sub rfl rfl rfl rfl rfl rfl (by omega) (by omega) (run_l tabOk ?_); conv => whnf) | (refine gs_dt (by first | assumption | omega) ?_; conv => whnf) | (refine gs_df (by first | assumption | omega) ?_; conv => whnf) | (refine gs_t (by assumption) ?_; conv => whnf) | (refine gs_f (by assumption) ?_; conv => whnf) | (refine gs_d (fun hg => ?_) (fun hg => ?_) <;> conv => whnf) | (refine gs_n (fun hg => ?_) (fun hg => ?_) <;> conv => whnf) | (refine gs_nb (fun hg => ?_) (fun hg => ?_) <;> conv => whnf) | (refine gs_b (fun hg => ?_) (fun hg => ?_) <;> conv => whnf) | refine fin1 rfl rfl ?_))
    refine lp_loop tabOk (X := Nat) (fun k => [(1, .pointer (some ⟨g, 0, none⟩)), (41, .slice A2 s.cons.length c2), (42, .int .i64 s.cons.length), (43, .int .i64 k)])
      (fun k wr => k ≤ s.cons.length ∧ (∀ j, j < k → conOk s.vars s.cells.length s.cons[j]! = true) ∧ Below w.heap.size w wr ∧ wr.heap[g]? = some (.cells #[.int .i64 s.vars, .slice A1 s.cells.length c1, .slice A2 s.cons.length c2] 54 (0, 0)))
      (fun k => s.cons.length - k) 0 ⟨rfl, rfl, rfl, rfl, trivial⟩ ⟨by omega, by omega, hB, hb⟩ ?_
    clear hb hB
    intro k G wr ⟨hk, hokc, hB, hb⟩
    conv => whnf
    by_cases hlt : k < s.cons.length
    · obtain ⟨x, ad, B, c, hx, rfl, e0, e1, e2, e3, e4, _⟩ := consE (h2.up stays_Con hB) k hlt
      (repeat' (first | (refine wl_Lg tabOk hb rfl rfl rfl rfl rfl rfl rfl (run_l tabOk ?_); conv => whnf) | (refine wl_Xn tabOk 66 4 rfl rfl rfl rfl rfl rfl rfl (by omega) (run_l tabOk ?_); conv => whnf) | (refine wl_La tabOk e0 rfl rfl rfl rfl rfl rfl (run_l tabOk ?_); conv => whnf) | (refine wl_add rfl rfl rfl rfl rfl rfl (by omega) (by omega) (run_l tabOk ?_); conv => whnf) | (refine wl_sub rfl rfl rfl rfl rfl rfl (by omega) (by omega) (run_l tabOk ?_); conv => whnf) | (refine gs_dt (by first | assumption | omega) ?_; conv => whnf) | (refine gs_df (by first | assumption | omega) ?_; conv => whnf) | (refine gs_t (by assumption) ?_; conv => whnf) | (refine gs_f (by assumption) ?_; conv => whnf) | (refine gs_d (fun hg => ?_) (fun hg => ?_) <;> conv => whnf) | (refine gs_n (fun hg => ?_) (fun hg => ?_) <;> conv => whnf) | (refine gs_nb (fun hg => ?_) (fun hg => ?_) <;> conv => whnf) | (refine gs_b (fun hg => ?_) (fun hg => ?_) <;> conv => whnf) | refine fin1 rfl rfl ?_))
      refine wl_alloc tabOk rfl rfl rfl rfl rfl rfl ?_
      intro g2 w2 hn2
      refine wl_Sa tabOk hn2.blk rfl rfl rfl rfl rfl (by simp [Value.oneCell']) rfl rfl ?_
      intro w3 hp
      have hg : g ≠ g2 := by have := blk_lt hb; have := hn2.at_; omega
      have hb3 := hp.old (hn2.old hb) hg
      have hc3 := hp.blk
      have hB3 : Below wr.heap.size wr w3 := hp.below hn2.below (by have := hn2.at_; omega) (by have := hn2.size; omega)
      have hBw := bup hB hB3
      refine run_l tabOk ?_
      conv => whnf
      (repeat' (first | (refine wl_Lg tabOk hb3 rfl rfl rfl rfl rfl rfl rfl (run_l tabOk ?_); conv => whnf) | (refine wl_Lg tabOk hc3 rfl rfl rfl rfl rfl rfl rfl (run_l tabOk ?_); conv => whnf) | (refine wl_Lag tabOk hc3 rfl rfl rfl rfl rfl rfl (run_l tabOk ?_); conv => whnf) | (refine wl_add rfl rfl rfl rfl rfl rfl (by omega) (by omega) (run_l tabOk ?_); conv => whnf) | (refine wl_sub rfl rfl rfl rfl rfl rfl (by omega) (by omega) (run_l tabOk ?_); conv => whnf) | (refine gs_dt (by first | assumption | omega) ?_; conv => whnf) | (refine gs_df (by first | assumption | omega) ?_; conv => whnf) | (refine gs_t (by assumption) ?_; conv => whnf) | (refine gs_f (by assumption) ?_; conv => whnf) | (refine gs_d (fun hg => ?_) (fun hg => ?_) <;> conv => whnf) | (refine gs_n (fun hg => ?_) (fun hg => ?_) <;> conv => whnf) | (refine gs_nb (fun hg => ?_) (fun hg => ?_) <;> conv => whnf) | (refine gs_b (fun hg => ?_) (fun hg => ?_) <;> conv => whnf) | refine fin1 rfl rfl ?_))
      refine wl_C fn57 (sysCon x _ _ _ _ _ (e2.out.up (stays_I _) hB3)) rfl rfl rfl rfl rfl rfl rfl ?_
      rintro _ w4 ⟨rfl, hB4⟩
      refine ⟨_, rfl, run_l tabOk ?_⟩
      conv => whnf
      (repeat' (first | (refine wl_add rfl rfl rfl rfl rfl rfl (by omega) (by omega) (run_l tabOk ?_); conv => whnf) | (refine wl_sub rfl rfl rfl rfl rfl rfl (by omega) (by omega) (run_l tabOk ?_); conv => whnf) | (refine gs_dt (by first | assumption | omega) ?_; conv => whnf) | (refine gs_df (by first | assumption | omega) ?_; conv => whnf) | (refine gs_t (by assumption) ?_; conv => whnf) | (refine gs_f (by assumption) ?_; conv => whnf) | (refine gs_d (fun hg => ?_) (fun hg => ?_) <;> conv => whnf) | (refine gs_n (fun hg => ?_) (fun hg => ?_) <;> conv => whnf) | (refine gs_nb (fun hg => ?_) (fun hg => ?_) <;> conv => whnf) | (refine gs_b (fun hg => ?_) (fun hg => ?_) <;> conv => whnf) | refine fin1 rfl rfl ?_))
      · exact ⟨retB (by rw [right_con hlt (by rw [hx.out]; assumption)]), bup hBw hB4⟩
      · exact ⟨k + 1, ⟨rfl, rfl, rfl, rfl, trivial⟩, ⟨by omega, all_succ hokc (by rw [hx.out]; assumption), bup hBw hB4, blk_up (bup hB3 hB4) hb⟩, by omega⟩
    · (repeat' (first | (refine wl_Lg tabOk hb rfl rfl rfl rfl rfl rfl rfl (run_l tabOk ?_); conv => whnf) | (refine wl_add rfl rfl rfl rfl rfl rfl (by omega) (by omega) (run_l tabOk ?_); conv => whnf) | (refine wl_sub rfl rfl rfl rfl rfl rfl (by omega) (by omega) (run_l tabOk ?_); conv => whnf) | (refine gs_dt (by first | assumption | omega) ?_; conv => whnf) | (refine gs_df (by first | assumption | omega) ?_; conv => whnf) | (refine gs_t (by assumption) ?_; conv => whnf) | (refine gs_f (by assumption) ?_; conv => whnf) | (refine gs_d (fun hg => ?_) (fun hg => ?_) <;> conv => whnf) | (refine gs_n (fun hg => ?_) (fun hg => ?_) <;> conv => whnf) | (refine gs_nb (fun hg => ?_) (fun hg => ?_) <;> conv => whnf) | (refine gs_b (fun hg => ?_) (fun hg => ?_) <;> conv => whnf) | refine fin1 rfl rfl ?_))
      exact ⟨retB (by rw [right_all (by omega) (by omega) (by omega) (by omega) hokA (all_ge hokc hlt)]), hB⟩
end Go.Proofs.YtkjbkalakafnlaaDoor

/- least.matrix: a map as a matrix. -/
namespace Go.Proofs.YtkjbkalakafnlaaDoor
open Go.RowKit
set_option linter.unusedVariables false
set_option linter.unusedSimpArgs false
set_option maxRecDepth 100000
def rowOf (nc : Nat) (p : List Int) : List Bool := p.foldl (fun r o => r.set o.toNat true) (List.replicate nc false)
def matOf (n nc : Nat) (ps : List (List Int)) : Mat := (List.range n).map fun v => rowOf nc (ps.getD v [])
def okRow (nc : Nat) (p : List Int) : Prop := ∀ k, k < p.length → 0 ≤ p[k]! ∧ p[k]! < nc
def okPts (n nc : Nat) (ps : List (List Int)) : Prop := ∀ v, v < n → v < ps.length → okRow nc ps[v]!
def sl (nc b : Nat) : Value := .slice (some ⟨b, 0, none⟩) nc nc
/-- In the loop: the rows rb are made. -/
structure MS (base gm : Nat) (w : World) (rb : List Nat) (n nc : Nat) (M : Mat) : Prop where
  out : w.heap[gm]? = some (.cells ((rb.map (sl nc)) ++ List.replicate (n - rb.length) (Value.slice none 0 0)).toArray 84 (0, 0))
  le : rb.length ≤ n
  sh : Shape rb.length nc M
  blk : ∀ i, i < rb.length → w.heap[rb[i]!]? = some (.cells (vb M[i]!).toArray 4 (0, 0))
  ge : ∀ k ∈ rb, base ≤ k ∧ k < w.heap.size ∧ k ≠ gm
  inj : ∀ i j, i < rb.length → j < rb.length → i ≠ j → rb[i]! ≠ rb[j]!
section
variable {base gm : Nat} {w w1 w2 : World} {rb : List Nat} {n nc : Nat} {M : Mat}
theorem MS.up (h : MS base gm w rb n nc M) (hb : Below w.heap.size w w1) : MS base gm w1 rb n nc M :=
  ⟨blk_up hb h.out, h.le, h.sh, fun i hi => blk_up hb (h.blk i hi), fun k hk => ⟨(h.ge k hk).1, Nat.lt_of_lt_of_le (h.ge k hk).2.1 hb.size, (h.ge k hk).2.2⟩, h.inj⟩
theorem MS.cell (h : MS base gm w rb n nc M) {i : Nat} (hi : i < rb.length) : w.cell? ((⟨gm, 0, none⟩ : Addr).add (i * 1)) = some (sl nc rb[i]!) := by
  rw [Nat.mul_one, add_zero]
  refine cell_blk h.out ?_
  rw [getElem!_pos rb i hi]
  simp [List.getElem?_append_left, hi]
theorem MS.bmat (h : MS base gm w rb n nc M) (hg : gm ∉ rb) : BMat base w (some ⟨gm, 0, none⟩) M rb rb.length nc :=
  ⟨h.sh, rfl, fun i hi => ⟨_, rfl, hg, h.cell hi⟩, h.blk, fun k hk => ⟨(h.ge k hk).1, (h.ge k hk).2.1⟩, h.inj⟩
theorem MS.notin (h : MS base gm w rb n nc M) : gm ∉ rb := fun hm => (h.ge gm hm).2.2 rfl
theorem get_snoc {α : Type} [Inhabited α] (xs : List α) (x : α) {i : Nat} (hi : i < xs.length + 1) : (xs ++ [x])[i]! = if i < xs.length then xs[i]! else x := by
  rw [getElem!_pos _ i (by simpa using hi), List.getElem_append]
  split
  · rename_i h
    rw [getElem!_pos xs i h]
  · simp
theorem MS.snoc (h : MS base gm w rb n nc M) (hlt : rb.length < n) {gr : Nat} (hn : New w w1 gr (List.replicate nc [Value.bool false]).flatten 4) (hb : base ≤ w.heap.size) (hgm : gm < w.heap.size)
    (hp : Put w1 w2 gm (((rb.map (sl nc)) ++ List.replicate (n - rb.length) (Value.slice none 0 0)).set rb.length (sl nc gr)) 84) : MS base gm w2 (rb ++ [gr]) n nc (M ++ [List.replicate nc false]) := by
  have hgr := hn.at_
  have hl : (rb ++ [gr]).length = rb.length + 1 := by simp
  have hMl : M.length = rb.length := h.sh.rows
  have e1 : ((rb.map (sl nc)) ++ List.replicate (n - rb.length) (Value.slice none 0 0)).set rb.length (sl nc gr) = ((rb ++ [gr]).map (sl nc)) ++ List.replicate (n - (rb ++ [gr]).length) (Value.slice none 0 0) := by
    rw [List.set_append_right _ _ (by simp), hl]
    rw [show n - rb.length = (n - (rb.length + 1)) + 1 by omega, List.replicate_succ]
    simp
  rw [e1] at hp
  have old : ∀ i, i < rb.length → rb[i]! < w.heap.size ∧ rb[i]! ≠ gm := fun i hi => ⟨(h.ge _ (mem_get hi)).2.1, (h.ge _ (mem_get hi)).2.2⟩
  refine ⟨hp.blk, by omega, ⟨by simp [hMl], fun i hi => ?_⟩, fun i hi => ?_, fun k hk => ?_, fun i j hi hj hij => ?_⟩
  · rw [get_snoc _ _ (by omega)]
    split
    · rename_i hi'; exact h.sh.cols i (by omega)
    · simp
  · rw [hl] at hi
    rw [get_snoc _ _ hi, get_snoc _ _ (by omega), hMl]
    by_cases hi' : i < rb.length
    · rw [if_pos hi', if_pos hi']
      exact hp.old (hn.old (h.blk i hi')) (old i hi').2
    · rw [if_neg hi', if_neg hi']
      have e2 : vb (List.replicate nc false) = (List.replicate nc [Value.bool false]).flatten := by simp [vb]
      rw [e2]
      exact hp.old hn.blk (by omega)
  · rw [hp.size, hn.size]
    rcases List.mem_append.1 hk with hk | hk
    · have := h.ge k hk; exact ⟨this.1, by omega, this.2.2⟩
    · simp only [List.mem_singleton] at hk
      subst hk
      exact ⟨by omega, by omega, by omega⟩
  · rw [hl] at hi hj
    rw [get_snoc _ _ hi, get_snoc _ _ hj]
    by_cases h1 : i < rb.length <;> by_cases h2 : j < rb.length
    · rw [if_pos h1, if_pos h2]; exact h.inj i j h1 h2 hij
    · rw [if_pos h1, if_neg h2]; have := (old i h1).1; omega
    · rw [if_neg h1, if_pos h2]; have := (old j h2).1; omega
    · omega
theorem MS.put (h : MS base gm w rb n nc M) {i o : Nat} (hi : i < rb.length) (hp : Put w w1 rb[i]! ((vb M[i]!).set o (.bool true)) 4) : MS base gm w1 rb n nc (setT M i o) := by
  have hb := (h.bmat h.notin).put hi hp
  exact ⟨hp.old h.out (fun e => (h.ge _ (mem_get hi)).2.2 e.symm), h.le, hb.sh, hb.blk, fun k hk => ⟨(h.ge k hk).1, by rw [hp.size]; exact (h.ge k hk).2.1, (h.ge k hk).2.2⟩, h.inj⟩
end
theorem rowOf_len (nc : Nat) (p : List Int) : (rowOf nc p).length = nc := by
  have : ∀ (l : List Int) (r : List Bool), (l.foldl (fun r o => r.set o.toNat true) r).length = r.length := by
    intro l
    induction l with
    | nil => intro r; rfl
    | cons o l ih => intro r; rw [List.foldl_cons, ih]; simp
  rw [rowOf, this]
  simp
theorem matOf_take (nc : Nat) (ps : List (List Int)) (v : Nat) : matOf (v + 1) nc ps = matOf v nc ps ++ [rowOf nc (ps.getD v [])] := by
  simp [matOf, List.range_succ]
theorem matOf_shape (n nc : Nat) (ps : List (List Int)) : Shape n nc (matOf n nc ps) := by
  refine ⟨by simp [matOf], fun i hi => ?_⟩
  rw [getElem!_pos _ i (by simpa [matOf] using hi)]
  simp [matOf, rowOf_len]
end Go.Proofs.YtkjbkalakafnlaaDoor

/- Floats: what they give, where the language names it; else that it is no number. -/
namespace Go.Proofs.YtkjbkalakafnlaaDoor
open Go.RowKit
set_option linter.unusedVariables false
set_option linter.unusedSimpArgs false
abbrev F64 : Ieee.Format := FloatKind.f64.format
def nanF (b : Nat) : Prop := ∃ s t, F64.read b = .nan s t
/-- Some: just these bits; none: no number, whichever. -/
def FRel : Option Nat → Nat → Prop
  | some r, b => b = r
  | none, b => nanF b
def fop (op : BinOp) : Option Nat → Option Nat → Option Nat
  | some a, some b => floatBits op .f64 a b
  | _, _ => none
theorem nan_left {op : BinOp} {a b : Nat} (h : nanF a) : floatBits op .f64 a b = none := by
  obtain ⟨s, t, h⟩ := h
  have h' : FloatKind.f64.format.read a = .nan s t := h
  cases op <;> simp [floatBits, Ieee.Format.add, Ieee.Format.sub, Ieee.Format.mul, Ieee.Format.div, h', Ieee.Datum.sum, Ieee.Datum.product, Ieee.Datum.quotient]
theorem nan_right {op : BinOp} {a b : Nat} (h : nanF b) : floatBits op .f64 a b = none := by
  obtain ⟨s, t, h⟩ := h
  have h' : FloatKind.f64.format.read b = .nan s t := h
  cases op <;> simp [floatBits, Ieee.Format.add, Ieee.Format.sub, Ieee.Format.mul, Ieee.Format.div, h', Ieee.Datum.sum, Ieee.Datum.product, Ieee.Datum.quotient, Ieee.Datum.opposite]
  all_goals (cases FloatKind.f64.format.read a <;> rfl)
theorem frel_op {op : BinOp} {x y : Option Nat} {a b r : Nat} (ha : FRel x a) (hb : FRel y b) (h : FRel (floatBits op .f64 a b) r) : FRel (fop op x y) r := by
  cases x with
  | none => rw [nan_left ha] at h; exact h
  | some a' =>
    cases y with
    | none => rw [nan_right hb] at h; exact h
    | some b' =>
      cases ha
      cases hb
      exact h
theorem order_nan {a b : Nat} (h : nanF a) : F64.order a b = none := by
  obtain ⟨s, t, h⟩ := h
  simp [Ieee.Format.order, h, Ieee.Datum.order]
theorem nan_cut (x y t : Nat) : nanF (Question.cut (.nanBits .f64 x y) t) := by
  have e1 : F64.signWeight = 9223372036854775808 := rfl
  have e2 : F64.binade = 4503599627370496 := rfl
  have e3 : F64.infRung = 9218868437227405312 := rfl
  unfold nanF Ieee.Format.read Question.cut
  simp only [e1, e2, e3]
  have hu : (t / 2) % (2 ^ 52 - 1) < 4503599627370495 := Nat.mod_lt _ (by decide)
  have hs : t % 2 = 0 ∨ t % 2 = 1 := by omega
  have e4 : (t % 2 * 2 ^ 63 + 0x7ff0000000000000 + 1 + (t / 2) % (2 ^ 52 - 1)) % 9223372036854775808 = 9218868437227405313 + (t / 2) % (2 ^ 52 - 1) := by
    rcases hs with h | h <;> rw [h] <;> omega
  rw [e4, if_neg (by omega), if_neg (by omega), if_neg (by omega)]
  exact ⟨_, _, rfl⟩
section
variable {P : Program} {T : Nat → Option TI} {n : Nat} {Q : Post} {F : Fm} {w : World} {ops : Array Oper} {rest : List Oper} {o : Oper} {K : Fm → Prop} {C : World → Prop}
def fArith (op : BinOp) : Bool := match op with | .add | .sub | .mul | .quo => true | _ => false
theorem fop_run {op : BinOp} {x y : Operand} {xt yt : TypeId} {a b : Nat} (hf : fArith op = true) (hop : o.op = .binOp op xt x y yt) (hx : ev F x = .float .f64 a) (hy : ev F y = .float .f64 b) :
    ∃ r w', (execOp (ev F) o).run P w = .ok (.value (.float .f64 r)) w' ∧ FRel (floatBits op .f64 a b) r ∧ Below w.heap.size w w' := by
  cases hb : floatBits op .f64 a b with
  | some r =>
    refine ⟨r, w, ?_, rfl, Below.refl _ _⟩
    have := run_float_arith (P := P) w op xt .f64 a b r hb
    cases op <;> simp only [fArith] at hf <;> first | (cases hf; done) | (simp [execOp, hop, hx, hy, eqGuard, this])
  | none =>
    refine ⟨Question.cut (.nanBits .f64 a b) (w.tape w.drawn (.nanBits .f64 a b)), { w with drawn := w.drawn + 1 }, ?_, nan_cut _ _ _, ⟨rfl, rfl, rfl, Nat.le_refl _, fun _ _ => rfl⟩⟩
    cases op <;> simp only [fArith] at hf <;> first | (cases hf; done) | (simp only [floatBits] at hb; simp [execOp, hop, hx, hy, eqGuard, binOp, Op.floatArith, hb, Sem.run, Question.forced, choose])
theorem wl_fop {op : BinOp} {x y : Operand} {xt yt : TypeId} {a b : Nat} (hf : fArith op = true) (hop : o.op = .binOp op xt x y yt) (hx : ev F x = .float .f64 a) (hy : ev F y = .float .f64 b) (hg : o.guard = none) {d : Nat} (hd : o.dst = some d) (hn : Nat.blt d n = true)
    (k : ∀ r w', FRel (floatBits op .f64 a b) r → Below w.heap.size w w' → wl P n ops rest Q (upd F d (.float .f64 r)) w') : wl P n ops (o :: rest) Q F w := by
  obtain ⟨r, w', h1, h2, h3⟩ := fop_run (P := P) (w := w) hf hop hx hy
  exact wl_val hg hd hn h1 (k r w' h2 h3)
def convF (T : Nat → Option TI) (s t : Nat) : Bool := match T s, T t with
  | some _, some ⟨.float .f64, _, _, _⟩ => true
  | _, _ => false
theorem fcv_run (hT : TabOk P T) {s t : TypeId} {x : Operand} {ki : IntKind} {a : Int} (hop : o.op = .convert s t x) (hx : ev F x = .int ki a) (h1 : convF T s t = true) : (execOp (ev F) o).run P w = .ok (.value (.float .f64 (FloatKind.f64.nearest a))) w := by
  unfold convF at h1
  split at h1
  · rename_i i1 sz by_ z e1 e2
    have h1 := T_u hT e1
    have h2 := T_u hT e2
    simp [execOp, hop, convert, run_und h1, run_und h2, hx, Conv.intToFloat]
  · cases h1
theorem wl_fcv (hT : TabOk P T) {s t : TypeId} {x : Operand} {ki : IntKind} {a : Int} (hop : o.op = .convert s t x) (hx : ev F x = .int ki a) (h1 : convF T s t = true) (hg : o.guard = none) {d : Nat} (hd : o.dst = some d) (hn : Nat.blt d n = true)
    (k : wl P n ops rest Q (upd F d (.float .f64 (FloatKind.f64.nearest a))) w) : wl P n ops (o :: rest) Q F w := wl_val hg hd hn (fcv_run hT hop hx h1) k
/-- Are they not one? -/
def fne (a b : Nat) : Bool := F64.order a b != some .eq
theorem fne_nan {a : Nat} (h : nanF a) (b : Nat) : fne a b = true := by rw [fne, order_nan h]; rfl
theorem wl_fne {x y : Operand} {xt yt : TypeId} {a b : Nat} (hop : o.op = .binOp .neq xt x y yt) (hx : ev F x = .float .f64 a) (hy : ev F y = .float .f64 b) (hg : o.guard = none) {d : Nat} (hd : o.dst = some d) (hn : Nat.blt d n = true)
    (k : wl P n ops rest Q (upd F d (.bool (fne a b))) w) : wl P n ops (o :: rest) Q F w := by
  refine wl_val hg hd hn ?_ k
  simp [execOp, hop, hx, hy, eqGuard, binOp, Op.floatCmp, fne]
theorem eqnil_run (hT : TabOk P T) {t : TypeId} (e s : Nat) {A : Option Addr} {l c : Nat} (h1 : sliceT T t e s = true) : (Op.equal t (.slice A l c) (.slice none 0 0)).run P w = .ok A.isNone w := by
  obtain ⟨hu, _⟩ := sliceT_ok (w := w) hT h1
  unfold Op.equal Op.maxDepth
  rw [show (10000 : Nat) = 9999 + 1 from rfl]
  unfold Op.equalIn
  cases A <;> simp [run_und hu]
/-- Is a slice nil? -/
theorem wl_eqnil (hT : TabOk P T) (e s : Nat) {t : TypeId} {x : Operand} {yt : TypeId} {A : Option Addr} {l c : Nat} (hop : o.op = .binOp .eql t x (.const (.slice none 0 0)) yt) (hx : ev F x = .slice A l c) (h1 : sliceT T t e s = true) (hg : o.guard = none) {d : Nat} (hd : o.dst = some d) (hn : Nat.blt d n = true)
    (k : wl P n ops rest Q (upd F d (.bool A.isNone)) w) : wl P n ops (o :: rest) Q F w := by
  refine wl_val hg hd hn ?_ k
  have := eqnil_run (P := P) (w := w) hT e s (A := A) (l := l) (c := c) h1
  have hy : ev F (.const (.slice none 0 0)) = .slice none 0 0 := rfl
  simp [execOp, hop, hx, hy, eqGuard, binOp, this]
/-! ### functions that have no body -/
structure ExtOk (P : Program) (f : FuncId) (e : Array Value → Sem Value) : Prop where
  ok : ∃ fn, P.funcs[f]? = some fn ∧ (fn.name == "runtime.NumGoroutine") = false ∧ fn.body.isNone = true ∧ Extern.findNext fn = none ∧ Extern.find fn = some e
theorem run_callExt {f : FuncId} {e : Array Value → Sem Value} (h : ExtOk P f e) {args : Array Value} {v : Value} (he : e args = pure v) : (callFunc f args).run P w = .ok (.value v) w := by
  obtain ⟨fn, h1, h2, h3, h4, h5⟩ := h.ok
  have h2' : ¬ fn.name = "runtime.NumGoroutine" := by simpa using h2
  have h3' : fn.body = none := by simpa using h3
  simp [callFunc, h1, h2', h3', h4, h5, he]
theorem wl_CE {f : FuncId} {e : Array Value → Sem Value} {c : Call} {x : Operand} {args : List Value} {v : Value} (hf : ExtOk P f e) (he : e args.toArray = pure v) (hop : o.op = .call c) (hcal : c.callee = .value x) (hx : ev F x = .func (.func f) #[] #[]) (hargs : c.args.toList.map (ev F) = args) (hg : o.guard = none) {d : Nat} (hd : o.dst = some d) (hn : Nat.blt d n = true)
    (k : wl P n ops rest Q (upd F d v) w) : wl P n ops (o :: rest) Q F w := by
  refine wl_val hg hd hn ?_ k
  have : c.args.map (ev F) = args.toArray := Array.toList_inj.1 (by rw [Array.toList_map, hargs])
  simp [execOp, hop, resolve, hcal, hx, Deferred.ofValue, this, invoke, run_callExt hf he]
end
end Go.Proofs.YtkjbkalakafnlaaDoor

/- least.Closed. -/
namespace Go.Proofs.YtkjbkalakafnlaaDoor
open Go.RowKit
set_option linter.unusedVariables false
set_option linter.unusedSimpArgs false
set_option maxRecDepth 100000
theorem rules_next {xs : List Cell} {ys : List Con} {i : Nat} {M : Mat} (h : ∀ j, j < i → ruleP xs ys[j]! M) (hr : ruleP xs ys[i]! M) : ∀ j, j < i + 1 → ruleP xs ys[j]! M := fun j hj => by
  rcases Nat.lt_or_ge j i with h1 | h1
  · exact h j h1
  · have : j = i := by omega
    subst this
    exact hr
/-- A map keeps all constraints. -/
def Keeping (s : Sys) (ps : List (List Int)) : Prop := rightB s = true ∧ (ps.length : Int) = s.vars ∧ okPts s.vars.toNat s.cells.length ps ∧ ClosedM s (matOf s.vars.toNat s.cells.length ps)
theorem right_parts {n : Nat} {xs : List Cell} {ys : List Con} (h : rightB ⟨n, xs, ys⟩ = true) : n ≤ 16384 ∧ xs.length ≤ 16384 ∧ ys.length ≤ 131072 ∧ (∀ o, o < xs.length → GoodX n xs[o]!) ∧ ∀ i, i < ys.length → GoodC n xs.length ys[i]! := by
  simp only [rightB, bigOk, Bool.and_eq_true, decide_eq_true_eq, List.all_eq_true] at h
  exact ⟨by omega, h.1.1.1.2, h.1.1.2, fun o ho => goodX (h.1.2 _ (mem_get ho)), fun i hi => goodC (h.2 _ (mem_get hi))⟩
end Go.Proofs.YtkjbkalakafnlaaDoor
