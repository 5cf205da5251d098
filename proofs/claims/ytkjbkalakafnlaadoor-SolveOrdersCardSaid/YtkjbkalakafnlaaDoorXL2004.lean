/- The walk of SolveOrders. -/
import Derived.Test.YtkjbkalakafnlaaDoorXL2001
import Derived.Test.YtkjbkalakafnlaaDoorZ10
namespace Go.Proofs.YtkjbkalakafnlaaDoor
open Go.RowKit
set_option linter.unusedVariables false
set_option linter.unusedSimpArgs false
set_option maxRecDepth 100000
section
variable {H : Type} {enc : TypeId × Value → H} {w : World} {base : Nat} {spare : Nat → Bool} {held : Bool}
theorem opens_U8s : Opens enc Tryd.prog w base spare held 64 (dS 1 (dI .u8)) := opens_S (sz := 1) Tryd.underlying64 cellsU8 (opens_I Tryd.underlying5)
end
/-- The rules are those of the constraints, wherever they stand. -/
theorem closed_mem {v : Int} {xs : List Cell} {ys : List Con} {N : Mat} : ClosedM ⟨v, xs, ys⟩ N ↔ ∀ c ∈ ys, ruleP xs c N := by
  constructor
  · intro h c hc
    obtain ⟨i, hi, e⟩ := List.getElem_of_mem hc
    have := h i hi
    have e2 : (⟨v, xs, ys⟩ : Sys).cons[i]! = c := by show ys[i]! = c; rw [getElem!_pos ys i hi]; exact e
    rwa [e2] at this
  · intro h i hi
    have hi : i < ys.length := hi
    exact h _ (by show ys[i]! ∈ ys; rw [getElem!_pos ys i hi]; exact List.getElem_mem hi)
theorem least_same {v : Int} {xs : List Cell} {ys zs : List Con} {M : Mat} (h : IsLeast ⟨v, xs, ys⟩ M) (h1 : ∀ c ∈ zs, c ∈ ys) (h2 : ∀ c ∈ ys, c ∈ zs) : IsLeast ⟨v, xs, zs⟩ M :=
  ⟨h.sh, closed_mem.2 fun c hc => closed_mem.1 h.closed c (h1 c hc), fun N hN => h.least N (closed_mem.2 fun c hc => closed_mem.1 hN c (h2 c hc))⟩
theorem right_mem {v : Int} {xs : List Cell} {ys zs : List Con} (h : rightB ⟨v, xs, ys⟩ = true) (h1 : ∀ c ∈ zs, c ∈ ys) (hl : zs.length ≤ 131072) : rightB ⟨v, xs, zs⟩ = true := by
  simp only [rightB, bigOk, Bool.and_eq_true, decide_eq_true_eq, List.all_eq_true] at h ⊢
  obtain ⟨⟨⟨⟨h3, h2⟩, h5⟩, h4⟩, h6⟩ := h
  exact ⟨⟨⟨⟨h3, h2⟩, hl⟩, h4⟩, fun c hc => h6 c (h1 c hc)⟩
/-- A row of constraints, by functions. -/
theorem consF {w : World} {ad : Addr} {ys : List Con} (h : RCons w (some ad) ys) : ∃ (fB : Nat → Option Addr) (fc : Nat → Nat), ∀ i, i < ys.length →
    cellsAt w (ad.add (i * 4)) 0 [.int .u8 ys[i]!.k, .int .i64 ys[i]!.a, .int .i64 ys[i]!.b, .slice (fB i) ys[i]!.args.length (fc i)] ∧ dCon w [.int .u8 ys[i]!.k, .int .i64 ys[i]!.a, .int .i64 ys[i]!.b, .slice (fB i) ys[i]!.args.length (fc i)] ys[i]! := by
  have key : ∀ i, ∃ p : Option Addr × Nat, i < ys.length → cellsAt w (ad.add (i * 4)) 0 [.int .u8 ys[i]!.k, .int .i64 ys[i]!.a, .int .i64 ys[i]!.b, .slice p.1 ys[i]!.args.length p.2] ∧ dCon w [.int .u8 ys[i]!.k, .int .i64 ys[i]!.a, .int .i64 ys[i]!.b, .slice p.1 ys[i]!.args.length p.2] ys[i]! := fun i => by
    by_cases hi : i < ys.length
    · obtain ⟨x, ad', B, c, hx, e, hc, hl, hr, h1, h2, h3, h4⟩ := consE h i hi
      cases e
      refine ⟨(B, c), fun _ => ?_⟩
      rw [hx.out]
      exact ⟨hc, B, c, rfl, hl, hr.out, ⟨h1, h2⟩, h3, h4⟩
    · exact ⟨(none, 0), fun h => absurd h hi⟩
  refine ⟨fun i => (Classical.choose (key i)).1, fun i => (Classical.choose (key i)).2, fun i hi => Classical.choose_spec (key i) hi⟩
theorem LRow.put {α : Type} [Inhabited α] {sz : Nat} {d : Dec α} {e : TypeId} {base : Nat} {w0 w w1 : World} {v : Value} {xs : List α} (h : LRow sz d e base w0 w v xs) {g : Nat} {cs : List Value} {t : TypeId} (hp : Put w w1 g cs t) (hg : g < base) : LRow sz d e base w0 w1 v xs := by
  obtain ⟨flat, o1, o2⟩ := h.own
  exact ⟨flat, o1.kept hp.grown (.inr fun e => by have := (o1.lt _ e).1; omega), o2⟩
set_option maxHeartbeats 16000000 in
theorem lawSolveOrders (d : Draft) (A : Option Addr) (c : Nat) (l : List Int) (B : Option Addr) (e : Nat) (w : World) (hT : Tab w) (h : RActs w A d.acts) (hk : (0 ≤ d.vars ∧ d.vars ≤ 255) ∧ 0 ≤ d.cells ∧ d.cells ≤ 255) (hl : RowR 1 (dI .u8) w B l) (hle : l.length ≤ e) :
    Calls Tryd.prog 11 #[.agg #[.int .u8 d.vars, .int .u8 d.cells, .slice A d.acts.length c], .slice B l.length e] w fun e w' => e = .returned (.bool true) ∧ Below w.heap.size w w' := by
  have hml := hl.1
  refine enterR (args := [.agg #[.int .u8 d.vars, .int .u8 d.cells, .slice A d.acts.length c], .slice B l.length e]) tabOk Tryd.func11 rfl Tryd.ntmps11 rfl ?_; conv => whnf
  refine wl_box rfl rfl rfl rfl rfl rfl ?_
  intro g1 w1 hn1
  refine run_l tabOk ?_
  conv => whnf
  refine wl_C fn32 (awake20 _ (hT.up hn1.below)) rfl rfl rfl rfl rfl rfl rfl ?_
  rintro _ w2 ⟨rfl, hB2⟩
  have hb := blk_up hB2 hn1.blk
  have hB := bup hn1.below hB2
  clear hn1 hB2
  refine ⟨_, rfl, run_l tabOk ?_⟩
  conv => whnf
  (repeat' (first | (refine wl_Lg tabOk hb rfl rfl rfl rfl rfl rfl rfl (run_l tabOk ?_); conv => whnf) | (refine wl_add rfl rfl rfl rfl rfl rfl (by omega) (by omega) (run_l tabOk ?_); conv => whnf) | (refine wl_sub rfl rfl rfl rfl rfl rfl (by omega) (by omega) (run_l tabOk ?_); conv => whnf) | (refine wl_cvA tabOk rfl rfl rfl (by simp only [inK]; omega) rfl rfl rfl (run_l tabOk ?_); conv => whnf) | (refine wl_cvB tabOk rfl rfl rfl rfl rfl rfl (run_l tabOk ?_); conv => whnf) | (refine wl_rem rfl rfl rfl rfl rfl rfl (by omega) (by omega) (fun r hr hr0 hr1 hr2 => run_l tabOk ?_); conv => whnf) | (refine wl_quo rfl rfl rfl rfl rfl rfl (by omega) (by omega) (by simp only [inK]; omega) (run_l tabOk ?_); conv => whnf) | (refine wl_mul rfl rfl rfl rfl rfl rfl (by omega) (by omega) (run_l tabOk ?_); conv => whnf) | (refine gs_dt (by first | assumption | omega) ?_; conv => whnf) | (refine gs_df (by first | assumption | omega) ?_; conv => whnf) | (refine gs_t (by assumption) ?_; conv => whnf) | (refine gs_f (by assumption) ?_; conv => whnf) | (refine gs_d (fun hg => ?_) (fun hg => ?_) <;> conv => whnf) | (refine gs_n (fun hg => ?_) (fun hg => ?_) <;> conv => whnf) | (refine gs_nb (fun hg => ?_) (fun hg => ?_) <;> conv => whnf) | (refine gs_b (fun hg => ?_) (fun hg => ?_) <;> conv => whnf) | refine fin1 rfl rfl ?_))
  all_goals try (refine wl_C fn32 (awake20 _ (hT.up hB)) rfl rfl rfl rfl rfl rfl rfl ?_; rintro _ w3 ⟨rfl, hB3⟩; refine ⟨_, rfl, run_l tabOk ?_⟩; (conv => whnf); (repeat' (first | (refine wl_add rfl rfl rfl rfl rfl rfl (by omega) (by omega) (run_l tabOk ?_); conv => whnf) | (refine wl_sub rfl rfl rfl rfl rfl rfl (by omega) (by omega) (run_l tabOk ?_); conv => whnf) | (refine wl_cvA tabOk rfl rfl rfl (by simp only [inK]; omega) rfl rfl rfl (run_l tabOk ?_); conv => whnf) | (refine wl_cvB tabOk rfl rfl rfl rfl rfl rfl (run_l tabOk ?_); conv => whnf) | (refine wl_rem rfl rfl rfl rfl rfl rfl (by omega) (by omega) (fun r hr hr0 hr1 hr2 => run_l tabOk ?_); conv => whnf) | (refine wl_quo rfl rfl rfl rfl rfl rfl (by omega) (by omega) (by simp only [inK]; omega) (run_l tabOk ?_); conv => whnf) | (refine wl_mul rfl rfl rfl rfl rfl rfl (by omega) (by omega) (run_l tabOk ?_); conv => whnf) | (refine gs_dt (by first | assumption | omega) ?_; conv => whnf) | (refine gs_df (by first | assumption | omega) ?_; conv => whnf) | (refine gs_t (by assumption) ?_; conv => whnf) | (refine gs_f (by assumption) ?_; conv => whnf) | (refine gs_d (fun hg => ?_) (fun hg => ?_) <;> conv => whnf) | (refine gs_n (fun hg => ?_) (fun hg => ?_) <;> conv => whnf) | (refine gs_nb (fun hg => ?_) (fun hg => ?_) <;> conv => whnf) | (refine gs_b (fun hg => ?_) (fun hg => ?_) <;> conv => whnf) | refine fin1 rfl rfl ?_)); exact ⟨rfl, bup hB hB3⟩)
  (repeat' (first | (refine wl_Lag tabOk hb rfl rfl rfl rfl rfl rfl (run_l tabOk ?_); conv => whnf) | (refine wl_add rfl rfl rfl rfl rfl rfl (by omega) (by omega) (run_l tabOk ?_); conv => whnf) | (refine wl_sub rfl rfl rfl rfl rfl rfl (by omega) (by omega) (run_l tabOk ?_); conv => whnf) | (refine wl_cvA tabOk rfl rfl rfl (by simp only [inK]; omega) rfl rfl rfl (run_l tabOk ?_); conv => whnf) | (refine wl_cvB tabOk rfl rfl rfl rfl rfl rfl (run_l tabOk ?_); conv => whnf) | (refine wl_rem rfl rfl rfl rfl rfl rfl (by omega) (by omega) (fun r hr hr0 hr1 hr2 => run_l tabOk ?_); conv => whnf) | (refine wl_quo rfl rfl rfl rfl rfl rfl (by omega) (by omega) (by simp only [inK]; omega) (run_l tabOk ?_); conv => whnf) | (refine wl_mul rfl rfl rfl rfl rfl rfl (by omega) (by omega) (run_l tabOk ?_); conv => whnf) | (refine gs_dt (by first | assumption | omega) ?_; conv => whnf) | (refine gs_df (by first | assumption | omega) ?_; conv => whnf) | (refine gs_t (by assumption) ?_; conv => whnf) | (refine gs_f (by assumption) ?_; conv => whnf) | (refine gs_d (fun hg => ?_) (fun hg => ?_) <;> conv => whnf) | (refine gs_n (fun hg => ?_) (fun hg => ?_) <;> conv => whnf) | (refine gs_nb (fun hg => ?_) (fun hg => ?_) <;> conv => whnf) | (refine gs_b (fun hg => ?_) (fun hg => ?_) <;> conv => whnf) | refine fin1 rfl rfl ?_))
  refine wl_C fn33 (refMake d A c w2 (h.up stays_Act hB) hk.1 hk.2) rfl rfl rfl rfl rfl rfl rfl ?_
  rintro _ w3 ⟨s, va, vb', bs, cs, rfl, hB3, hM⟩
  have hright := hM.right
  have hvars := hM.vars
  have hncells := hM.ncells
  have hncons := hM.ncons
  obtain ⟨A1, c1, rfl, _, hq1⟩ := hM.cells.row
  obtain ⟨A2, c2, rfl, hlc2, hq2⟩ := hM.cons.row
  have hB03 := bup hB hB3
  clear hM hB
  obtain ⟨vars, xs, ys⟩ := s
  simp only at hright hvars hq1 hq2 hncells hncons hlc2
  obtain ⟨n, rfl⟩ : ∃ n : Nat, vars = n := ⟨vars.toNat, by omega⟩
  refine ⟨_, rfl, run_l tabOk ?_⟩
  conv => whnf
  refine wl_alloc tabOk rfl rfl rfl rfl rfl rfl ?_
  intro g3 w4 hn4
  refine wl_Sa tabOk hn4.blk rfl rfl rfl rfl rfl (by simp [Value.oneCell']) rfl rfl ?_
  intro w5 hp5
  have hB5 : Below w3.heap.size w3 w5 := hp5.below hn4.below (by have := hn4.at_; omega) (by have := hn4.size; omega)
  have hb3 : w5.heap[g3]? = some (.cells #[.int .i64 n, .slice A1 xs.length c1, .slice A2 ys.length c2] 54 (0, 0)) := hp5.blk
  have hb1 := blk_up hB5 (blk_up hB3 hb)
  have hq1 := hq1.up stays_Cell hB5
  have hq2 := hq2.up stays_Con hB5
  have hB05 := bup hB03 hB5
  clear hp5 hn4 hB03 hB5 hB3 hb
  refine run_l tabOk ?_
  conv => whnf
  (repeat' (first | (refine wl_Lag tabOk hb3 rfl rfl rfl rfl rfl rfl (run_l tabOk ?_); conv => whnf) | (refine wl_add rfl rfl rfl rfl rfl rfl (by omega) (by omega) (run_l tabOk ?_); conv => whnf) | (refine wl_sub rfl rfl rfl rfl rfl rfl (by omega) (by omega) (run_l tabOk ?_); conv => whnf) | (refine wl_cvA tabOk rfl rfl rfl (by simp only [inK]; omega) rfl rfl rfl (run_l tabOk ?_); conv => whnf) | (refine wl_cvB tabOk rfl rfl rfl rfl rfl rfl (run_l tabOk ?_); conv => whnf) | (refine wl_rem rfl rfl rfl rfl rfl rfl (by omega) (by omega) (fun r hr hr0 hr1 hr2 => run_l tabOk ?_); conv => whnf) | (refine wl_quo rfl rfl rfl rfl rfl rfl (by omega) (by omega) (by simp only [inK]; omega) (run_l tabOk ?_); conv => whnf) | (refine wl_mul rfl rfl rfl rfl rfl rfl (by omega) (by omega) (run_l tabOk ?_); conv => whnf) | (refine gs_dt (by first | assumption | omega) ?_; conv => whnf) | (refine gs_df (by first | assumption | omega) ?_; conv => whnf) | (refine gs_t (by assumption) ?_; conv => whnf) | (refine gs_f (by assumption) ?_; conv => whnf) | (refine gs_d (fun hg => ?_) (fun hg => ?_) <;> conv => whnf) | (refine gs_n (fun hg => ?_) (fun hg => ?_) <;> conv => whnf) | (refine gs_nb (fun hg => ?_) (fun hg => ?_) <;> conv => whnf) | (refine gs_b (fun hg => ?_) (fun hg => ?_) <;> conv => whnf) | refine fin1 rfl rfl ?_))
  refine wl_C fn34 (solveLeast n xs ys A1 A2 c1 c2 w5 hq1 hq2 hright (hT.up hB05)) rfl rfl rfl rfl rfl rfl rfl ?_
  rintro _ w6 ⟨M, Ap, cap, k, rfl, hIL, hrr, _, _, hB6⟩
  have hsh : Shape n xs.length M := by simpa using hIL.sh
  have hpl : (ptsOf M).length = n := by simp [ptsOf, hsh.rows]
  have hb3 := blk_up hB6 hb3
  have hq1 := hq1.up stays_Cell hB6
  have hq2 := hq2.up stays_Con hB6
  have hBw := bup hB05 hB6
  refine ⟨_, rfl, run_l tabOk ?_⟩
  conv => whnf
  (repeat' (first | (refine wl_Lg tabOk hb3 rfl rfl rfl rfl rfl rfl rfl (run_l tabOk ?_); conv => whnf) | (refine wl_Lag tabOk hb3 rfl rfl rfl rfl rfl rfl (run_l tabOk ?_); conv => whnf) | (refine wl_add rfl rfl rfl rfl rfl rfl (by omega) (by omega) (run_l tabOk ?_); conv => whnf) | (refine wl_sub rfl rfl rfl rfl rfl rfl (by omega) (by omega) (run_l tabOk ?_); conv => whnf) | (refine wl_cvA tabOk rfl rfl rfl (by simp only [inK]; omega) rfl rfl rfl (run_l tabOk ?_); conv => whnf) | (refine wl_cvB tabOk rfl rfl rfl rfl rfl rfl (run_l tabOk ?_); conv => whnf) | (refine wl_rem rfl rfl rfl rfl rfl rfl (by omega) (by omega) (fun r hr hr0 hr1 hr2 => run_l tabOk ?_); conv => whnf) | (refine wl_quo rfl rfl rfl rfl rfl rfl (by omega) (by omega) (by simp only [inK]; omega) (run_l tabOk ?_); conv => whnf) | (refine wl_mul rfl rfl rfl rfl rfl rfl (by omega) (by omega) (run_l tabOk ?_); conv => whnf) | (refine gs_dt (by first | assumption | omega) ?_; conv => whnf) | (refine gs_df (by first | assumption | omega) ?_; conv => whnf) | (refine gs_t (by assumption) ?_; conv => whnf) | (refine gs_f (by assumption) ?_; conv => whnf) | (refine gs_d (fun hg => ?_) (fun hg => ?_) <;> conv => whnf) | (refine gs_n (fun hg => ?_) (fun hg => ?_) <;> conv => whnf) | (refine gs_nb (fun hg => ?_) (fun hg => ?_) <;> conv => whnf) | (refine gs_b (fun hg => ?_) (fun hg => ?_) <;> conv => whnf) | refine fin1 rfl rfl ?_))
  refine wl_alloc tabOk rfl rfl rfl rfl rfl rfl ?_
  intro g9 w7 hn7
  refine run_l tabOk ?_
  conv => whnf
  (repeat' (first | (refine wl_add rfl rfl rfl rfl rfl rfl (by omega) (by omega) (run_l tabOk ?_); conv => whnf) | (refine wl_sub rfl rfl rfl rfl rfl rfl (by omega) (by omega) (run_l tabOk ?_); conv => whnf) | (refine wl_cvA tabOk rfl rfl rfl (by simp only [inK]; omega) rfl rfl rfl (run_l tabOk ?_); conv => whnf) | (refine wl_cvB tabOk rfl rfl rfl rfl rfl rfl (run_l tabOk ?_); conv => whnf) | (refine wl_rem rfl rfl rfl rfl rfl rfl (by omega) (by omega) (fun r hr hr0 hr1 hr2 => run_l tabOk ?_); conv => whnf) | (refine wl_quo rfl rfl rfl rfl rfl rfl (by omega) (by omega) (by simp only [inK]; omega) (run_l tabOk ?_); conv => whnf) | (refine wl_mul rfl rfl rfl rfl rfl rfl (by omega) (by omega) (run_l tabOk ?_); conv => whnf) | (refine gs_dt (by first | assumption | omega) ?_; conv => whnf) | (refine gs_df (by first | assumption | omega) ?_; conv => whnf) | (refine gs_t (by assumption) ?_; conv => whnf) | (refine gs_f (by assumption) ?_; conv => whnf) | (refine gs_d (fun hg => ?_) (fun hg => ?_) <;> conv => whnf) | (refine gs_n (fun hg => ?_) (fun hg => ?_) <;> conv => whnf) | (refine gs_nb (fun hg => ?_) (fun hg => ?_) <;> conv => whnf) | (refine gs_b (fun hg => ?_) (fun hg => ?_) <;> conv => whnf) | refine fin1 rfl rfl ?_))
  refine wl_Sa tabOk hn7.blk rfl rfl rfl rfl rfl (by simp [Value.oneCell']) rfl rfl ?_
  intro w8 hp8
  refine run_l tabOk ?_
  conv => whnf
  have hb39 : w8.heap[g9]? = some (.cells #[.int .i64 n, .slice A1 xs.length c1, .slice A2 ys.length c2] 54 (0, 0)) := hp8.blk
  have hg9 : w6.heap.size ≤ g9 := by have := hn7.at_; omega
  have hB68 : Below w6.heap.size w6 w8 := hp8.below hn7.below hg9 (by have := hn7.size; omega)
  have hb38 := blk_up hB68 hb3
  have hg39 : g3 ≠ g9 := fun e => by have := blk_lt hb3; omega
  (repeat' (first | (refine wl_Lg tabOk hb39 rfl rfl rfl rfl rfl rfl rfl (run_l tabOk ?_); conv => whnf) | (refine wl_add rfl rfl rfl rfl rfl rfl (by omega) (by omega) (run_l tabOk ?_); conv => whnf) | (refine wl_sub rfl rfl rfl rfl rfl rfl (by omega) (by omega) (run_l tabOk ?_); conv => whnf) | (refine wl_cvA tabOk rfl rfl rfl (by simp only [inK]; omega) rfl rfl rfl (run_l tabOk ?_); conv => whnf) | (refine wl_cvB tabOk rfl rfl rfl rfl rfl rfl (run_l tabOk ?_); conv => whnf) | (refine wl_rem rfl rfl rfl rfl rfl rfl (by omega) (by omega) (fun r hr hr0 hr1 hr2 => run_l tabOk ?_); conv => whnf) | (refine wl_quo rfl rfl rfl rfl rfl rfl (by omega) (by omega) (by simp only [inK]; omega) (run_l tabOk ?_); conv => whnf) | (refine wl_mul rfl rfl rfl rfl rfl rfl (by omega) (by omega) (run_l tabOk ?_); conv => whnf) | (refine gs_dt (by first | assumption | omega) ?_; conv => whnf) | (refine gs_df (by first | assumption | omega) ?_; conv => whnf) | (refine gs_t (by assumption) ?_; conv => whnf) | (refine gs_f (by assumption) ?_; conv => whnf) | (refine gs_d (fun hg => ?_) (fun hg => ?_) <;> conv => whnf) | (refine gs_n (fun hg => ?_) (fun hg => ?_) <;> conv => whnf) | (refine gs_nb (fun hg => ?_) (fun hg => ?_) <;> conv => whnf) | (refine gs_b (fun hg => ?_) (fun hg => ?_) <;> conv => whnf) | refine fin1 rfl rfl ?_))
  refine wl_S (off := 2) (v := .slice none 0 0) tabOk hb39 rfl rfl rfl rfl rfl rfl (by simp) rfl rfl ?_
  intro w9 hp9
  refine run_l tabOk ?_
  conv => whnf
  have hb9 : w9.heap[g9]? = some (.cells #[.int .i64 n, .slice A1 xs.length c1, .slice none 0 0] 54 (0, 0)) := hp9.blk
  have hB69 : Below w6.heap.size w6 w9 := hp9.below hB68 hg9 hB68.size
  have hb3 := blk_up hB69 hb3
  have hg9l := blk_lt hb9
  clear hp9 hb39 hb38 hp8 hB68 hn7
  (repeat' (first | (refine wl_Lg tabOk hb3 rfl rfl rfl rfl rfl rfl rfl (run_l tabOk ?_); conv => whnf) | (refine wl_add rfl rfl rfl rfl rfl rfl (by omega) (by omega) (run_l tabOk ?_); conv => whnf) | (refine wl_sub rfl rfl rfl rfl rfl rfl (by omega) (by omega) (run_l tabOk ?_); conv => whnf) | (refine wl_cvA tabOk rfl rfl rfl (by simp only [inK]; omega) rfl rfl rfl (run_l tabOk ?_); conv => whnf) | (refine wl_cvB tabOk rfl rfl rfl rfl rfl rfl (run_l tabOk ?_); conv => whnf) | (refine wl_rem rfl rfl rfl rfl rfl rfl (by omega) (by omega) (fun r hr hr0 hr1 hr2 => run_l tabOk ?_); conv => whnf) | (refine wl_quo rfl rfl rfl rfl rfl rfl (by omega) (by omega) (by simp only [inK]; omega) (run_l tabOk ?_); conv => whnf) | (refine wl_mul rfl rfl rfl rfl rfl rfl (by omega) (by omega) (run_l tabOk ?_); conv => whnf) | (refine gs_dt (by first | assumption | omega) ?_; conv => whnf) | (refine gs_df (by first | assumption | omega) ?_; conv => whnf) | (refine gs_t (by assumption) ?_; conv => whnf) | (refine gs_f (by assumption) ?_; conv => whnf) | (refine gs_d (fun hg => ?_) (fun hg => ?_) <;> conv => whnf) | (refine gs_n (fun hg => ?_) (fun hg => ?_) <;> conv => whnf) | (refine gs_nb (fun hg => ?_) (fun hg => ?_) <;> conv => whnf) | (refine gs_b (fun hg => ?_) (fun hg => ?_) <;> conv => whnf) | refine fin1 rfl rfl ?_))
  refine lp_loop tabOk (X := List Con × Option Addr × Nat × Nat) (fun x => [(1, .slice B l.length e), (5, .pointer (some ⟨g3, 0, none⟩)), (6, .slice Ap n cap), (8, .int .i64 0), (9, .pointer (some ⟨g9, 0, none⟩)), (10, .int .i64 ys.length), (11, .int .i64 x.2.2.2)])
    (fun x wr => x.2.2.2 ≤ l.length ∧ x.1.length ≤ x.2.2.2 ∧ Below w6.heap.size w6 wr ∧ w9.heap.size ≤ wr.heap.size ∧ wr.heap[g9]? = some (.cells #[.int .i64 n, .slice A1 xs.length c1, .slice x.2.1 x.1.length x.2.2.1] 54 (0, 0)) ∧ LRow 4 dCon 66 w9.heap.size w6 wr (.slice x.2.1 x.1.length x.2.2.1) x.1 ∧ ∀ c ∈ x.1, c ∈ ys)
    (fun x => l.length - x.2.2.2) ([], none, 0, 0) ⟨rfl, rfl, rfl, rfl, rfl, rfl, rfl, trivial⟩ ⟨by simp, by simp, hB69, Nat.le_refl _, hb9, LRow.nil .., by simp⟩ ?_
  rintro ⟨zs, D, dc, i⟩ G wr ⟨hi, hzl, hB6r, hszr, hb9r, hrow, hsub⟩
  simp only at hi hzl hB6r hszr hb9r hrow hsub
  conv => whnf
  have hb3r := blk_up hB6r (show w6.heap[g3]? = _ from by assumption)
  by_cases hcnd : i < l.length ∧ 0 < ys.length
  · obtain ⟨hil, hy0⟩ := hcnd
    obtain ⟨adB, csB, hB', _, hcB, hdB, hxr⟩ := row_at (hl.up (stays_I _) (bup hBw hB6r)) i hil
    obtain ⟨x, hx⟩ : ∃ x, x = l[i]! := ⟨_, rfl⟩
    rw [← hx] at hdB hxr
    subst hdB hB'
    have f0 := hcB.1
    have hxr : 0 ≤ x ∧ x ≤ 255 := hxr
    obtain ⟨_, _, _, _, _, hA2, _⟩ := consE hq2 0 hy0
    subst hA2
    obtain ⟨fB, fc, hall⟩ := consF hq2
    have hallr : ∀ r : Int, 0 ≤ r → r < ys.length → cellsAt wr (_ : Addr) 0 _ := fun r h0 h1 => cellsAt_up hB6r (hall r.toNat (by omega)).1
    have hyi : (0 : Int) < ((ys.length : Nat) : Int) := by omega
    have hii : ((i : Nat) : Int) < ((l.length : Nat) : Int) := by omega
    have hiq : ((zs, D, dc, i) : List Con × Option Addr × Nat × Nat).snd.snd.snd < l.length := hil
    (repeat' (first | (refine wl_add rfl rfl rfl rfl rfl rfl (by omega) (by omega) (run_l tabOk ?_); conv => whnf) | (refine wl_sub rfl rfl rfl rfl rfl rfl (by omega) (by omega) (run_l tabOk ?_); conv => whnf) | (refine wl_cvA tabOk rfl rfl rfl (by simp only [inK]; omega) rfl rfl rfl (run_l tabOk ?_); conv => whnf) | (refine wl_cvB tabOk rfl rfl rfl rfl rfl rfl (run_l tabOk ?_); conv => whnf) | (refine wl_rem rfl rfl rfl rfl rfl rfl (by omega) (by omega) (fun r hr hr0 hr1 hr2 => run_l tabOk ?_); conv => whnf) | (refine wl_quo rfl rfl rfl rfl rfl rfl (by omega) (by omega) (by simp only [inK]; omega) (run_l tabOk ?_); conv => whnf) | (refine wl_mul rfl rfl rfl rfl rfl rfl (by omega) (by omega) (run_l tabOk ?_); conv => whnf) | (refine gs_dt (by first | assumption | omega) ?_; conv => whnf) | (refine gs_df (by first | assumption | omega) ?_; conv => whnf) | (refine gs_t (by assumption) ?_; conv => whnf) | (refine gs_f (by assumption) ?_; conv => whnf) | (refine gs_d (fun hg => ?_) (fun hg => ?_) <;> conv => whnf) | (refine gs_n (fun hg => ?_) (fun hg => ?_) <;> conv => whnf) | (refine gs_nb (fun hg => ?_) (fun hg => ?_) <;> conv => whnf) | (refine gs_b (fun hg => ?_) (fun hg => ?_) <;> conv => whnf) | refine fin1 rfl rfl ?_))
    refine wc_qx [0, 1, 2, 3, 4, 5, 6, 7, 8, 9, 10, 11, 12] 1 14 (stable_Bw _) tabOk mixed (by kernel_rfl) (Below.refl _ _) ?_; (conv => whnf)
    (repeat' (first | (refine wq_Lg tabOk hb9r rfl rfl rfl rfl rfl rfl rfl (run_q tabOk ?_); conv => whnf) | (refine wq_Lg tabOk hb3r rfl rfl rfl rfl rfl rfl rfl (run_q tabOk ?_); conv => whnf) | (refine wq_L tabOk rfl rfl rfl rfl rfl rfl f0 (run_q tabOk ?_); conv => whnf) | (refine wq_Xn tabOk 5 1 rfl rfl rfl rfl rfl rfl rfl (by omega) (run_q tabOk ?_); conv => whnf) | (refine wq_X tabOk 66 4 rfl rfl rfl rfl rfl rfl rfl (by omega) (by omega) (run_q tabOk ?_); conv => whnf) | (refine wq_La tabOk (hallr _ (by omega) (by omega)) rfl rfl rfl rfl rfl rfl (run_q tabOk ?_); conv => whnf) | (refine wq_add rfl rfl rfl rfl rfl rfl (by omega) (by omega) (run_q tabOk ?_); conv => whnf) | (refine wq_sub rfl rfl rfl rfl rfl rfl (by omega) (by omega) (run_q tabOk ?_); conv => whnf) | (refine wq_cvA tabOk rfl rfl rfl (by simp only [inK]; omega) rfl rfl rfl (run_q tabOk ?_); conv => whnf) | (refine wq_cvB tabOk rfl rfl rfl rfl rfl rfl (run_q tabOk ?_); conv => whnf) | (refine wq_rem rfl rfl rfl rfl rfl rfl (by omega) (by omega) (fun r hr hr0 hr1 hr2 => run_q tabOk ?_); conv => whnf) | (refine wq_quo rfl rfl rfl rfl rfl rfl (by omega) (by omega) (by simp only [inK]; omega) (run_q tabOk ?_); conv => whnf) | (refine wq_mul rfl rfl rfl rfl rfl rfl (by omega) (by omega) (run_q tabOk ?_); conv => whnf) | (refine gs_dt (by first | assumption | omega) ?_; conv => whnf) | (refine gs_df (by first | assumption | omega) ?_; conv => whnf) | (refine gs_t (by assumption) ?_; conv => whnf) | (refine gs_f (by assumption) ?_; conv => whnf) | (refine gs_d (fun hg => ?_) (fun hg => ?_) <;> conv => whnf) | (refine gs_n (fun hg => ?_) (fun hg => ?_) <;> conv => whnf) | (refine gs_nb (fun hg => ?_) (fun hg => ?_) <;> conv => whnf) | (refine gs_b (fun hg => ?_) (fun hg => ?_) <;> conv => whnf)))
    rename_i r hr hr0 hr1 hr2
    intro W hC hBW
    conv => whnf
    refine And.intro ?_ True.intro
    conv => whnf
    refine wb_a (wa_bs tabOk 66 4 rfl rfl rfl rfl rfl rfl rfl rfl rfl ?_)
    intro gn W1 hn1
    refine ⟨bup hC hn1.below, fun W2 hB2 hC2 => ?_⟩
    have hBz := bup (bup hBW hn1.below) hB2
    have hbn := blk_up hB2 hn1.blk
    clear hC hn1
    conv => whnf
    obtain ⟨flat, hown, hel⟩ := hrow.own
    refine wl_ap tabOk 66 4 48 (hown.kept (grown_of hBz) (Classical.em _)) hbn rfl rfl rfl rfl rfl rfl rfl rfl rfl rfl rfl rfl (by simp [Value.oneCell']) (by omega) (by omega) (by have := hBz.size; omega) ?_
    intro E ec u2 hown2 hg2 hob2
    refine run_l tabOk ?_
    conv => whnf
    have hgu : wr.grownBy u2 (Value.slice D zs.length dc).ownBlock := grown_trans (grown_of hBz) hg2
    have hb9u : u2.heap[g9]? = _ := (hgu.block g9 (blk_lt hb9r) (fun e => by have := (hown.lt g9 e.symm).1; omega)).trans hb9r
    refine wl_S (off := 2) (v := .slice E (zs.length + 1) ec) tabOk hb9u rfl rfl rfl rfl rfl rfl (by simp) rfl rfl ?_
    intro u3 hp3
    refine run_l tabOk ?_
    conv => whnf
    (repeat' (first | (refine wl_add rfl rfl rfl rfl rfl rfl (by omega) (by omega) (run_l tabOk ?_); conv => whnf) | (refine wl_sub rfl rfl rfl rfl rfl rfl (by omega) (by omega) (run_l tabOk ?_); conv => whnf) | (refine wl_cvA tabOk rfl rfl rfl (by simp only [inK]; omega) rfl rfl rfl (run_l tabOk ?_); conv => whnf) | (refine wl_cvB tabOk rfl rfl rfl rfl rfl rfl (run_l tabOk ?_); conv => whnf) | (refine wl_rem rfl rfl rfl rfl rfl rfl (by omega) (by omega) (fun r hr hr0 hr1 hr2 => run_l tabOk ?_); conv => whnf) | (refine wl_quo rfl rfl rfl rfl rfl rfl (by omega) (by omega) (by simp only [inK]; omega) (run_l tabOk ?_); conv => whnf) | (refine wl_mul rfl rfl rfl rfl rfl rfl (by omega) (by omega) (run_l tabOk ?_); conv => whnf) | (refine gs_dt (by first | assumption | omega) ?_; conv => whnf) | (refine gs_df (by first | assumption | omega) ?_; conv => whnf) | (refine gs_t (by assumption) ?_; conv => whnf) | (refine gs_f (by assumption) ?_; conv => whnf) | (refine gs_d (fun hg => ?_) (fun hg => ?_) <;> conv => whnf) | (refine gs_n (fun hg => ?_) (fun hg => ?_) <;> conv => whnf) | (refine gs_nb (fun hg => ?_) (fun hg => ?_) <;> conv => whnf) | (refine gs_b (fun hg => ?_) (fun hg => ?_) <;> conv => whnf) | refine fin1 rfl rfl ?_))
    have hZl : (zs ++ [ys[r.toNat]!]).length = zs.length + 1 := by simp
    have hB2' : Below w6.heap.size w6 u2 := (bup hB6r hBz).grown hg2 (by have := hBz.size; have := hB6r.size; omega) (fun k hk => by have := (hown.lt k hk).1; have := hB69.size; omega)
    have hB3' : Below w6.heap.size w6 u3 := hp3.below hB2' hg9 hB2'.size
    have hr3 : LRow 4 dCon 66 w9.heap.size w6 u2 (.slice E (zs.length + 1) ec) (zs ++ [ys[r.toNat]!]) := by
      refine ⟨flat ++ _, by rw [hZl]; exact hown2, fun w' hw' => (hel w' hw').push rfl ?_⟩
      exact stays_Con.go _ _ _ _ hw'.block (hall r.toNat (by omega)).2
    have hr3 := hr3.put hp3 hg9l
    rw [← hZl] at hr3
    have hb93 : u3.heap[g9]? = some (.cells #[.int .i64 n, .slice A1 xs.length c1, .slice E (zs ++ [ys[r.toNat]!]).length ec] 54 (0, 0)) := by rw [hZl]; exact hp3.blk
    have hsz3 : w9.heap.size ≤ u3.heap.size := by rw [hp3.size]; have := hg2.size; have := hBz.size; omega
    exact ⟨(zs ++ [ys[r.toNat]!], E, ec, i + 1), ⟨rfl, rfl, rfl, rfl, rfl, rfl, rfl, trivial⟩, ⟨by simp only; omega, by simp only [hZl]; omega, hB3', hsz3, hb93, hr3, fun q hq => by
      rcases List.mem_append.1 hq with hq | hq
      · exact hsub q hq
      · simp only [List.mem_singleton] at hq
        rw [hq, getElem!_pos ys r.toNat (by omega)]
        exact List.getElem_mem _⟩, by simp only; omega⟩
  · have hdone : (i < l.length → ys.length = 0) := fun h => by omega
    by_cases hil : i < l.length
    case' pos =>
      have hy0 := hdone hil
      have hii : ((i : Nat) : Int) < ((l.length : Nat) : Int) := by omega
      have hyi : ¬ (0 : Int) < ((ys.length : Nat) : Int) := by omega
    case' neg => have hii : ¬ ((i : Nat) : Int) < ((l.length : Nat) : Int) := by omega
    all_goals (repeat' (first | (refine wl_add rfl rfl rfl rfl rfl rfl (by omega) (by omega) (run_l tabOk ?_); conv => whnf) | (refine wl_sub rfl rfl rfl rfl rfl rfl (by omega) (by omega) (run_l tabOk ?_); conv => whnf) | (refine wl_cvA tabOk rfl rfl rfl (by simp only [inK]; omega) rfl rfl rfl (run_l tabOk ?_); conv => whnf) | (refine wl_cvB tabOk rfl rfl rfl rfl rfl rfl (run_l tabOk ?_); conv => whnf) | (refine wl_rem rfl rfl rfl rfl rfl rfl (by omega) (by omega) (fun r hr hr0 hr1 hr2 => run_l tabOk ?_); conv => whnf) | (refine wl_quo rfl rfl rfl rfl rfl rfl (by omega) (by omega) (by simp only [inK]; omega) (run_l tabOk ?_); conv => whnf) | (refine wl_mul rfl rfl rfl rfl rfl rfl (by omega) (by omega) (run_l tabOk ?_); conv => whnf) | (refine gs_dt (by first | assumption | omega) ?_; conv => whnf) | (refine gs_df (by first | assumption | omega) ?_; conv => whnf) | (refine gs_t (by assumption) ?_; conv => whnf) | (refine gs_f (by assumption) ?_; conv => whnf) | (refine gs_d (fun hg => ?_) (fun hg => ?_) <;> conv => whnf) | (refine gs_n (fun hg => ?_) (fun hg => ?_) <;> conv => whnf) | (refine gs_nb (fun hg => ?_) (fun hg => ?_) <;> conv => whnf) | (refine gs_b (fun hg => ?_) (fun hg => ?_) <;> conv => whnf) | refine fin1 rfl rfl ?_))
    all_goals (
      clear hdone hcnd hl
      refine lp_loop tabOk (X := List Con × Option Addr × Nat × Int) (fun x => [(5, .pointer (some ⟨g3, 0, none⟩)), (6, .slice Ap n cap), (8, .int .i64 0), (9, .pointer (some ⟨g9, 0, none⟩)), (12, .int .i64 x.2.2.2)])
        (fun x wr => (-1 ≤ x.2.2.2 ∧ x.2.2.2 < ys.length) ∧ (x.1.length : Int) ≤ l.length + ys.length - 1 - x.2.2.2 ∧ Below w6.heap.size w6 wr ∧ w9.heap.size ≤ wr.heap.size ∧ wr.heap[g9]? = some (.cells #[.int .i64 n, .slice A1 xs.length c1, .slice x.2.1 x.1.length x.2.2.1] 54 (0, 0)) ∧ LRow 4 dCon 66 w9.heap.size w6 wr (.slice x.2.1 x.1.length x.2.2.1) x.1 ∧ (∀ c ∈ x.1, c ∈ ys) ∧ ∀ j : Nat, x.2.2.2 < j → j < ys.length → ys[j]! ∈ x.1)
        (fun x => (x.2.2.2 + 1).toNat) (zs, D, dc, (ys.length : Int) - 1) ⟨rfl, rfl, rfl, rfl, rfl, trivial⟩ ⟨by simp only; omega, by simp only; omega, hB6r, hszr, hb9r, hrow, hsub, fun j h1 h2 => by simp only at h1; omega⟩ ?_
      clear hi hzl hB6r hszr hb9r hrow hsub hb3r
      rintro ⟨zs, D, dc, r⟩ G wr ⟨⟨hi, hi2⟩, hzl, hB6r, hszr, hb9r, hrow, hsub, hsup⟩
      simp only at hi hi2 hzl hB6r hszr hb9r hrow hsub hsup
      conv => whnf
      have hb3r := blk_up hB6r (show w6.heap[g3]? = _ from by assumption)
      by_cases hi0 : 0 ≤ r
      · obtain ⟨_, _, _, _, _, hA2, _⟩ := consE hq2 0 (by omega)
        subst hA2
        obtain ⟨fB, fc, hall⟩ := consF hq2
        have hallr : ∀ r : Int, 0 ≤ r → r < ys.length → cellsAt wr (_ : Addr) 0 _ := fun r h0 h1 => cellsAt_up hB6r (hall r.toNat (by omega)).1
        have hri : r < ((ys.length : Nat) : Int) := by omega
        have hrq : 0 ≤ ((zs, D, dc, r) : List Con × Option Addr × Nat × Int).snd.snd.snd ∧ ((zs, D, dc, r) : List Con × Option Addr × Nat × Int).snd.snd.snd < ys.length := ⟨hi0, hi2⟩
        (repeat' (first | (refine wl_add rfl rfl rfl rfl rfl rfl (by omega) (by omega) (run_l tabOk ?_); conv => whnf) | (refine wl_sub rfl rfl rfl rfl rfl rfl (by omega) (by omega) (run_l tabOk ?_); conv => whnf) | (refine wl_cvA tabOk rfl rfl rfl (by simp only [inK]; omega) rfl rfl rfl (run_l tabOk ?_); conv => whnf) | (refine wl_cvB tabOk rfl rfl rfl rfl rfl rfl (run_l tabOk ?_); conv => whnf) | (refine wl_rem rfl rfl rfl rfl rfl rfl (by omega) (by omega) (fun r hr hr0 hr1 hr2 => run_l tabOk ?_); conv => whnf) | (refine wl_quo rfl rfl rfl rfl rfl rfl (by omega) (by omega) (by simp only [inK]; omega) (run_l tabOk ?_); conv => whnf) | (refine wl_mul rfl rfl rfl rfl rfl rfl (by omega) (by omega) (run_l tabOk ?_); conv => whnf) | (refine gs_dt (by first | assumption | omega) ?_; conv => whnf) | (refine gs_df (by first | assumption | omega) ?_; conv => whnf) | (refine gs_t (by assumption) ?_; conv => whnf) | (refine gs_f (by assumption) ?_; conv => whnf) | (refine gs_d (fun hg => ?_) (fun hg => ?_) <;> conv => whnf) | (refine gs_n (fun hg => ?_) (fun hg => ?_) <;> conv => whnf) | (refine gs_nb (fun hg => ?_) (fun hg => ?_) <;> conv => whnf) | (refine gs_b (fun hg => ?_) (fun hg => ?_) <;> conv => whnf) | refine fin1 rfl rfl ?_))
        refine wc_qx [0, 1, 2, 3, 4, 5, 6] 1 8 (stable_Bw _) tabOk mixed (by kernel_rfl) (Below.refl _ _) ?_; (conv => whnf)
        (repeat' (first | (refine wq_Lg tabOk hb9r rfl rfl rfl rfl rfl rfl rfl (run_q tabOk ?_); conv => whnf) | (refine wq_Lg tabOk hb3r rfl rfl rfl rfl rfl rfl rfl (run_q tabOk ?_); conv => whnf) | (refine wq_X tabOk 66 4 rfl rfl rfl rfl rfl rfl rfl (by omega) (by omega) (run_q tabOk ?_); conv => whnf) | (refine wq_La tabOk (hallr _ (by omega) (by omega)) rfl rfl rfl rfl rfl rfl (run_q tabOk ?_); conv => whnf) | (refine wq_add rfl rfl rfl rfl rfl rfl (by omega) (by omega) (run_q tabOk ?_); conv => whnf) | (refine wq_sub rfl rfl rfl rfl rfl rfl (by omega) (by omega) (run_q tabOk ?_); conv => whnf) | (refine wq_cvA tabOk rfl rfl rfl (by simp only [inK]; omega) rfl rfl rfl (run_q tabOk ?_); conv => whnf) | (refine wq_cvB tabOk rfl rfl rfl rfl rfl rfl (run_q tabOk ?_); conv => whnf) | (refine wq_rem rfl rfl rfl rfl rfl rfl (by omega) (by omega) (fun r hr hr0 hr1 hr2 => run_q tabOk ?_); conv => whnf) | (refine wq_quo rfl rfl rfl rfl rfl rfl (by omega) (by omega) (by simp only [inK]; omega) (run_q tabOk ?_); conv => whnf) | (refine wq_mul rfl rfl rfl rfl rfl rfl (by omega) (by omega) (run_q tabOk ?_); conv => whnf) | (refine gs_dt (by first | assumption | omega) ?_; conv => whnf) | (refine gs_df (by first | assumption | omega) ?_; conv => whnf) | (refine gs_t (by assumption) ?_; conv => whnf) | (refine gs_f (by assumption) ?_; conv => whnf) | (refine gs_d (fun hg => ?_) (fun hg => ?_) <;> conv => whnf) | (refine gs_n (fun hg => ?_) (fun hg => ?_) <;> conv => whnf) | (refine gs_nb (fun hg => ?_) (fun hg => ?_) <;> conv => whnf) | (refine gs_b (fun hg => ?_) (fun hg => ?_) <;> conv => whnf)))
        intro W hC hBW
        conv => whnf
        refine And.intro ?_ True.intro
        conv => whnf
        refine wb_a (wa_bs tabOk 66 4 rfl rfl rfl rfl rfl rfl rfl rfl rfl ?_)
        intro gn W1 hn1
        refine ⟨bup hC hn1.below, fun W2 hB2 hC2 => ?_⟩
        have hBz := bup (bup hBW hn1.below) hB2
        have hbn := blk_up hB2 hn1.blk
        clear hC hn1
        conv => whnf
        obtain ⟨flat, hown, hel⟩ := hrow.own
        refine wl_ap tabOk 66 4 48 (hown.kept (grown_of hBz) (Classical.em _)) hbn rfl rfl rfl rfl rfl rfl rfl rfl rfl rfl rfl rfl (by simp [Value.oneCell']) (by omega) (by omega) (by have := hBz.size; omega) ?_
        intro E ec u2 hown2 hg2 hob2
        refine run_l tabOk ?_
        conv => whnf
        have hgu : wr.grownBy u2 (Value.slice D zs.length dc).ownBlock := grown_trans (grown_of hBz) hg2
        have hb9u : u2.heap[g9]? = _ := (hgu.block g9 (blk_lt hb9r) (fun e => by have := (hown.lt g9 e.symm).1; omega)).trans hb9r
        refine wl_S (off := 2) (v := .slice E (zs.length + 1) ec) tabOk hb9u rfl rfl rfl rfl rfl rfl (by simp) rfl rfl ?_
        intro u3 hp3
        refine run_l tabOk ?_
        conv => whnf
        (repeat' (first | (refine wl_add rfl rfl rfl rfl rfl rfl (by omega) (by omega) (run_l tabOk ?_); conv => whnf) | (refine wl_sub rfl rfl rfl rfl rfl rfl (by omega) (by omega) (run_l tabOk ?_); conv => whnf) | (refine wl_cvA tabOk rfl rfl rfl (by simp only [inK]; omega) rfl rfl rfl (run_l tabOk ?_); conv => whnf) | (refine wl_cvB tabOk rfl rfl rfl rfl rfl rfl (run_l tabOk ?_); conv => whnf) | (refine wl_rem rfl rfl rfl rfl rfl rfl (by omega) (by omega) (fun r hr hr0 hr1 hr2 => run_l tabOk ?_); conv => whnf) | (refine wl_quo rfl rfl rfl rfl rfl rfl (by omega) (by omega) (by simp only [inK]; omega) (run_l tabOk ?_); conv => whnf) | (refine wl_mul rfl rfl rfl rfl rfl rfl (by omega) (by omega) (run_l tabOk ?_); conv => whnf) | (refine gs_dt (by first | assumption | omega) ?_; conv => whnf) | (refine gs_df (by first | assumption | omega) ?_; conv => whnf) | (refine gs_t (by assumption) ?_; conv => whnf) | (refine gs_f (by assumption) ?_; conv => whnf) | (refine gs_d (fun hg => ?_) (fun hg => ?_) <;> conv => whnf) | (refine gs_n (fun hg => ?_) (fun hg => ?_) <;> conv => whnf) | (refine gs_nb (fun hg => ?_) (fun hg => ?_) <;> conv => whnf) | (refine gs_b (fun hg => ?_) (fun hg => ?_) <;> conv => whnf) | refine fin1 rfl rfl ?_))
        have hZl : (zs ++ [ys[r.toNat]!]).length = zs.length + 1 := by simp
        have hB2' : Below w6.heap.size w6 u2 := (bup hB6r hBz).grown hg2 (by have := hBz.size; have := hB6r.size; omega) (fun k hk => by have := (hown.lt k hk).1; have := hB69.size; omega)
        have hB3' : Below w6.heap.size w6 u3 := hp3.below hB2' hg9 hB2'.size
        have hr3 : LRow 4 dCon 66 w9.heap.size w6 u2 (.slice E (zs.length + 1) ec) (zs ++ [ys[r.toNat]!]) := by
          refine ⟨flat ++ _, by rw [hZl]; exact hown2, fun w' hw' => (hel w' hw').push rfl ?_⟩
          exact stays_Con.go _ _ _ _ hw'.block (hall r.toNat (by omega)).2
        have hr3 := hr3.put hp3 hg9l
        rw [← hZl] at hr3
        have hb93 : u3.heap[g9]? = some (.cells #[.int .i64 n, .slice A1 xs.length c1, .slice E (zs ++ [ys[r.toNat]!]).length ec] 54 (0, 0)) := by rw [hZl]; exact hp3.blk
        have hsz3 : w9.heap.size ≤ u3.heap.size := by rw [hp3.size]; have := hg2.size; have := hBz.size; omega
        exact ⟨(zs ++ [ys[r.toNat]!], E, ec, r - 1), ⟨rfl, rfl, rfl, rfl, rfl, trivial⟩, ⟨by simp only; omega, by simp only [hZl]; omega, hB3', hsz3, hb93, hr3, fun q hq => by
          rcases List.mem_append.1 hq with hq | hq
          · exact hsub q hq
          · simp only [List.mem_singleton] at hq
            rw [hq, getElem!_pos ys r.toNat (by omega)]
            exact List.getElem_mem _, fun j h1 h2 => by
          simp only at h1
          by_cases hji : r < j
          · exact List.mem_append.2 (.inl (hsup j hji h2))
          · have : r.toNat = j := by omega
            rw [this]
            exact List.mem_append.2 (.inr (by simp))⟩, by simp only; omega⟩
      · (repeat' (first | (refine wl_Lg tabOk hb9r rfl rfl rfl rfl rfl rfl rfl (run_l tabOk ?_); conv => whnf) | (refine wl_Lag tabOk hb9r rfl rfl rfl rfl rfl rfl (run_l tabOk ?_); conv => whnf) | (refine wl_add rfl rfl rfl rfl rfl rfl (by omega) (by omega) (run_l tabOk ?_); conv => whnf) | (refine wl_sub rfl rfl rfl rfl rfl rfl (by omega) (by omega) (run_l tabOk ?_); conv => whnf) | (refine wl_cvA tabOk rfl rfl rfl (by simp only [inK]; omega) rfl rfl rfl (run_l tabOk ?_); conv => whnf) | (refine wl_cvB tabOk rfl rfl rfl rfl rfl rfl (run_l tabOk ?_); conv => whnf) | (refine wl_rem rfl rfl rfl rfl rfl rfl (by omega) (by omega) (fun r hr hr0 hr1 hr2 => run_l tabOk ?_); conv => whnf) | (refine wl_quo rfl rfl rfl rfl rfl rfl (by omega) (by omega) (by simp only [inK]; omega) (run_l tabOk ?_); conv => whnf) | (refine wl_mul rfl rfl rfl rfl rfl rfl (by omega) (by omega) (run_l tabOk ?_); conv => whnf) | (refine gs_dt (by first | assumption | omega) ?_; conv => whnf) | (refine gs_df (by first | assumption | omega) ?_; conv => whnf) | (refine gs_t (by assumption) ?_; conv => whnf) | (refine gs_f (by assumption) ?_; conv => whnf) | (refine gs_d (fun hg => ?_) (fun hg => ?_) <;> conv => whnf) | (refine gs_n (fun hg => ?_) (fun hg => ?_) <;> conv => whnf) | (refine gs_nb (fun hg => ?_) (fun hg => ?_) <;> conv => whnf) | (refine gs_b (fun hg => ?_) (fun hg => ?_) <;> conv => whnf) | refine fin1 rfl rfl ?_))
        have hall2 : ∀ c ∈ ys, c ∈ zs := fun c hc => by
          obtain ⟨j, hj, e⟩ := List.getElem_of_mem hc
          have := hsup j (by omega) hj
          rw [getElem!_pos ys j hj, e] at this
          exact this
        have hrz : RCons wr D zs := hrow.rowAt hB6r
        refine wl_C fn34 (solveLeast n xs zs A1 D c1 dc wr (hq1.up stays_Cell hB6r) hrz (right_mem hright hsub (by omega)) (hT.up (bup hBw hB6r))) rfl rfl rfl rfl rfl rfl rfl ?_
        rintro _ wa ⟨M', Aq, capq, k', rfl, hIL', hrr', _, _, hBa⟩
        have hMM : M' = M := hIL'.unique (least_same hIL hsub hall2)
        subst hMM
        have hrr := hrr.up stays_Ints (bup hB6r hBa)
        have hBw := bup (bup hBw hB6r) hBa
        refine ⟨_, rfl, run_l tabOk ?_⟩
        conv => whnf
        (repeat' (first | (refine wl_add rfl rfl rfl rfl rfl rfl (by omega) (by omega) (run_l tabOk ?_); conv => whnf) | (refine wl_sub rfl rfl rfl rfl rfl rfl (by omega) (by omega) (run_l tabOk ?_); conv => whnf) | (refine wl_cvA tabOk rfl rfl rfl (by simp only [inK]; omega) rfl rfl rfl (run_l tabOk ?_); conv => whnf) | (refine wl_cvB tabOk rfl rfl rfl rfl rfl rfl (run_l tabOk ?_); conv => whnf) | (refine wl_rem rfl rfl rfl rfl rfl rfl (by omega) (by omega) (fun r hr hr0 hr1 hr2 => run_l tabOk ?_); conv => whnf) | (refine wl_quo rfl rfl rfl rfl rfl rfl (by omega) (by omega) (by simp only [inK]; omega) (run_l tabOk ?_); conv => whnf) | (refine wl_mul rfl rfl rfl rfl rfl rfl (by omega) (by omega) (run_l tabOk ?_); conv => whnf) | (refine gs_dt (by first | assumption | omega) ?_; conv => whnf) | (refine gs_df (by first | assumption | omega) ?_; conv => whnf) | (refine gs_t (by assumption) ?_; conv => whnf) | (refine gs_f (by assumption) ?_; conv => whnf) | (refine gs_d (fun hg => ?_) (fun hg => ?_) <;> conv => whnf) | (refine gs_n (fun hg => ?_) (fun hg => ?_) <;> conv => whnf) | (refine gs_nb (fun hg => ?_) (fun hg => ?_) <;> conv => whnf) | (refine gs_b (fun hg => ?_) (fun hg => ?_) <;> conv => whnf) | refine fin1 rfl rfl ?_))
        refine wl_C fn35 (by have := refSamePoints (ptsOf M') (ptsOf M') Ap Aq cap capq wa hrr hrr'; rw [hpl] at this; exact this) rfl rfl rfl rfl rfl rfl rfl ?_
        rintro _ wb ⟨rfl, hBb⟩
        rw [samePts_refl]
        have hBw := bup hBw hBb
        refine ⟨_, rfl, run_l tabOk ?_⟩
        conv => whnf
        (repeat' (first | (refine wl_add rfl rfl rfl rfl rfl rfl (by omega) (by omega) (run_l tabOk ?_); conv => whnf) | (refine wl_sub rfl rfl rfl rfl rfl rfl (by omega) (by omega) (run_l tabOk ?_); conv => whnf) | (refine wl_cvA tabOk rfl rfl rfl (by simp only [inK]; omega) rfl rfl rfl (run_l tabOk ?_); conv => whnf) | (refine wl_cvB tabOk rfl rfl rfl rfl rfl rfl (run_l tabOk ?_); conv => whnf) | (refine wl_rem rfl rfl rfl rfl rfl rfl (by omega) (by omega) (fun r hr hr0 hr1 hr2 => run_l tabOk ?_); conv => whnf) | (refine wl_quo rfl rfl rfl rfl rfl rfl (by omega) (by omega) (by simp only [inK]; omega) (run_l tabOk ?_); conv => whnf) | (refine wl_mul rfl rfl rfl rfl rfl rfl (by omega) (by omega) (run_l tabOk ?_); conv => whnf) | (refine gs_dt (by first | assumption | omega) ?_; conv => whnf) | (refine gs_df (by first | assumption | omega) ?_; conv => whnf) | (refine gs_t (by assumption) ?_; conv => whnf) | (refine gs_f (by assumption) ?_; conv => whnf) | (refine gs_d (fun hg => ?_) (fun hg => ?_) <;> conv => whnf) | (refine gs_n (fun hg => ?_) (fun hg => ?_) <;> conv => whnf) | (refine gs_nb (fun hg => ?_) (fun hg => ?_) <;> conv => whnf) | (refine gs_b (fun hg => ?_) (fun hg => ?_) <;> conv => whnf) | refine fin1 rfl rfl ?_))
        exact ⟨rfl, hBw⟩)
end Go.Proofs.YtkjbkalakafnlaaDoor
