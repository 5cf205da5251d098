/- The walk of LeastPoints. -/
import Derived.Test.YtkmnhkfgjadppaaM12
import Derived.Test.YtkmnhkfgjadppaaL2303
import Derived.Test.YtkmnhkfgjadppaaL2305
import Derived.Test.YtkmnhkfgjadppaaEX3
namespace Go.Proofs.Ytkmnhkfgjadppaa
open Go.RowKit
set_option linter.unusedVariables false
set_option linter.unusedSimpArgs false
set_option maxRecDepth 100000
theorem wrapu0' (a : Int) : 0 ≤ IntKind.u64.wrap a := by simp [IntKind.wrap, IntKind.bits, IntKind.signed]; omega
/-- What is read the same from a world on. -/
def Later {α : Type} (d : Dec α) (w0 : World) : Dec α := fun _ cs x => ∀ w', Below w0.heap.size w0 w' → d w' cs x
theorem RowR.later {α : Type} [Inhabited α] {sz : Nat} {d : Dec α} (hd : Stays d) {w0 w : World} {A : Option Addr} {xs : List α} (h : RowR sz d w0 A xs) (hb : Below w0.heap.size w0 w) : RowR sz (Later d w0) w A xs :=
  ⟨h.1, fun i hi => let ⟨ad, cs, e, l, hc, hk⟩ := h.2 i hi; ⟨ad, cs, e, l, fun j u hu => cell_up hb (hc j u hu), fun w' hw' => hd.go _ _ _ _ hw'.block hk⟩⟩
theorem one_Later {α : Type} {d : Dec α} (h : OneC d) (w0 : World) : OneC (Later d w0) := fun w cs x hx u hu => h w0 cs x (hx w0 (Below.refl _ _)) u hu
theorem Elems.later {α : Type} [Inhabited α] {sz : Nat} {d : Dec α} {w0 w : World} {flat : List Value} {xs : List α} (h : Elems sz (Later d w0) w flat xs) (w' : World) (hb : Below w0.heap.size w0 w') : Elems sz d w' flat xs := ⟨h.1, fun i hi => h.2 i hi w' hb⟩
theorem right_push {n : Int} {xs : List Cell} {ys : List Con} {c : Con} (h : rightB ⟨n, xs, ys⟩ = true) (hl : ys.length < 131072) (hc : conOk n xs.length c = true) : rightB ⟨n, xs, ys ++ [c]⟩ = true := by
  simp only [rightB, bigOk, Bool.and_eq_true, decide_eq_true_eq, List.all_append, List.all_cons, List.all_nil, List.length_append, List.length_singleton, Bool.and_true] at h ⊢
  exact ⟨⟨⟨⟨h.1.1.1.1, h.1.1.1.2⟩, by omega⟩, h.1.2⟩, h.2, hc⟩
theorem closed_push {n : Int} {xs : List Cell} {ys : List Con} {c : Con} {N : Mat} (h : ClosedM ⟨n, xs, ys ++ [c]⟩ N) : ClosedM ⟨n, xs, ys⟩ N := fun i hi => by
  have := h i (by simp only [List.length_append]; simp only at hi; omega)
  simp only at this hi ⊢
  rw [getElem!_pos _ i (by simp; omega), List.getElem_append_left hi] at this
  rwa [getElem!_pos ys i hi]
set_option maxHeartbeats 16000000 in
theorem lawLeastPoints (d : Draft) (A : Option Addr) (c : Nat) (ps : List (List Int)) (P : Option Addr) (pc : Nat) (w : World) (h : RActs w A d.acts) (hk : (0 ≤ d.vars ∧ d.vars ≤ 255) ∧ 0 ≤ d.cells ∧ d.cells ≤ 255) (hp : RRows w P ps) (hpc : ps.length ≤ pc) :
    Calls Try.prog 5 #[.agg #[.int .u8 d.vars, .int .u8 d.cells, .slice A d.acts.length c], .slice P ps.length pc] w fun e w' => e = .returned (.bool true) ∧ Below w.heap.size w w' := by
  have hpm := hp.1
  refine enterR (args := [.agg #[.int .u8 d.vars, .int .u8 d.cells, .slice A d.acts.length c], .slice P ps.length pc]) tabOk Try.func5 rfl Try.ntmps5 rfl ?_; conv => whnf
  refine wl_box rfl rfl rfl rfl rfl rfl ?_
  intro g1 w1 hn1
  refine run_l tabOk ?_
  conv => whnf
  refine wl_C fn9 (awake23 _) rfl rfl rfl rfl rfl rfl rfl ?_
  rintro _ w2 ⟨rfl, hB2⟩
  have hb := blk_up hB2 hn1.blk
  have hB := bup hn1.below hB2
  refine ⟨_, rfl, run_l tabOk ?_⟩
  conv => whnf
  (repeat' (first | (refine wl_Lg tabOk hb rfl rfl rfl rfl rfl rfl rfl (run_l tabOk ?_); conv => whnf) | (refine wl_add rfl rfl rfl rfl rfl rfl (by omega) (by omega) (run_l tabOk ?_); conv => whnf) | (refine wl_sub rfl rfl rfl rfl rfl rfl (by omega) (by omega) (run_l tabOk ?_); conv => whnf) | (refine wl_cvA tabOk rfl rfl rfl (by simp only [inK]; omega) rfl rfl rfl (run_l tabOk ?_); conv => whnf) | (refine wl_cvB tabOk rfl rfl rfl rfl rfl rfl (run_l tabOk ?_); conv => whnf) | (refine wl_rem rfl rfl rfl rfl rfl rfl (by omega) (by omega) (fun r hr hr0 hr1 hr2 => run_l tabOk ?_); conv => whnf) | (refine wl_quo rfl rfl rfl rfl rfl rfl (by omega) (by omega) (by simp only [inK]; omega) (run_l tabOk ?_); conv => whnf) | (refine wl_mul rfl rfl rfl rfl rfl rfl (by omega) (by omega) (run_l tabOk ?_); conv => whnf) | (refine gs_dt (by first | assumption | omega) ?_; conv => whnf) | (refine gs_df (by first | assumption | omega) ?_; conv => whnf) | (refine gs_t (by assumption) ?_; conv => whnf) | (refine gs_f (by assumption) ?_; conv => whnf) | (refine gs_d (fun hg => ?_) (fun hg => ?_) <;> conv => whnf) | (refine gs_n (fun hg => ?_) (fun hg => ?_) <;> conv => whnf) | (refine gs_nb (fun hg => ?_) (fun hg => ?_) <;> conv => whnf) | (refine gs_b (fun hg => ?_) (fun hg => ?_) <;> conv => whnf) | refine fin1 rfl rfl ?_))
  all_goals try (
    refine wl_C fn9 (awake23 _) rfl rfl rfl rfl rfl rfl rfl ?_
    rintro _ w3 ⟨rfl, hB3⟩
    refine ⟨_, rfl, run_l tabOk ?_⟩
    conv => whnf
    (repeat' (first | (refine wl_add rfl rfl rfl rfl rfl rfl (by omega) (by omega) (run_l tabOk ?_); conv => whnf) | (refine wl_sub rfl rfl rfl rfl rfl rfl (by omega) (by omega) (run_l tabOk ?_); conv => whnf) | (refine wl_cvA tabOk rfl rfl rfl (by simp only [inK]; omega) rfl rfl rfl (run_l tabOk ?_); conv => whnf) | (refine wl_cvB tabOk rfl rfl rfl rfl rfl rfl (run_l tabOk ?_); conv => whnf) | (refine wl_rem rfl rfl rfl rfl rfl rfl (by omega) (by omega) (fun r hr hr0 hr1 hr2 => run_l tabOk ?_); conv => whnf) | (refine wl_quo rfl rfl rfl rfl rfl rfl (by omega) (by omega) (by simp only [inK]; omega) (run_l tabOk ?_); conv => whnf) | (refine wl_mul rfl rfl rfl rfl rfl rfl (by omega) (by omega) (run_l tabOk ?_); conv => whnf) | (refine gs_dt (by first | assumption | omega) ?_; conv => whnf) | (refine gs_df (by first | assumption | omega) ?_; conv => whnf) | (refine gs_t (by assumption) ?_; conv => whnf) | (refine gs_f (by assumption) ?_; conv => whnf) | (refine gs_d (fun hg => ?_) (fun hg => ?_) <;> conv => whnf) | (refine gs_n (fun hg => ?_) (fun hg => ?_) <;> conv => whnf) | (refine gs_nb (fun hg => ?_) (fun hg => ?_) <;> conv => whnf) | (refine gs_b (fun hg => ?_) (fun hg => ?_) <;> conv => whnf) | refine fin1 rfl rfl ?_))
    exact ⟨rfl, bup hB hB3⟩)
  (repeat' (first | (refine wl_Lag tabOk hb rfl rfl rfl rfl rfl rfl (run_l tabOk ?_); conv => whnf) | (refine wl_add rfl rfl rfl rfl rfl rfl (by omega) (by omega) (run_l tabOk ?_); conv => whnf) | (refine wl_sub rfl rfl rfl rfl rfl rfl (by omega) (by omega) (run_l tabOk ?_); conv => whnf) | (refine wl_cvA tabOk rfl rfl rfl (by simp only [inK]; omega) rfl rfl rfl (run_l tabOk ?_); conv => whnf) | (refine wl_cvB tabOk rfl rfl rfl rfl rfl rfl (run_l tabOk ?_); conv => whnf) | (refine wl_rem rfl rfl rfl rfl rfl rfl (by omega) (by omega) (fun r hr hr0 hr1 hr2 => run_l tabOk ?_); conv => whnf) | (refine wl_quo rfl rfl rfl rfl rfl rfl (by omega) (by omega) (by simp only [inK]; omega) (run_l tabOk ?_); conv => whnf) | (refine wl_mul rfl rfl rfl rfl rfl rfl (by omega) (by omega) (run_l tabOk ?_); conv => whnf) | (refine gs_dt (by first | assumption | omega) ?_; conv => whnf) | (refine gs_df (by first | assumption | omega) ?_; conv => whnf) | (refine gs_t (by assumption) ?_; conv => whnf) | (refine gs_f (by assumption) ?_; conv => whnf) | (refine gs_d (fun hg => ?_) (fun hg => ?_) <;> conv => whnf) | (refine gs_n (fun hg => ?_) (fun hg => ?_) <;> conv => whnf) | (refine gs_nb (fun hg => ?_) (fun hg => ?_) <;> conv => whnf) | (refine gs_b (fun hg => ?_) (fun hg => ?_) <;> conv => whnf) | refine fin1 rfl rfl ?_))
  refine wl_C fn10 (refMake d A c w2 (h.up stays_Act hB) hk.1 hk.2) rfl rfl rfl rfl rfl rfl rfl ?_
  rintro _ w3 ⟨s, va, vb', bs, cs, rfl, hB3, hM⟩
  have hright := hM.right
  have hvars := hM.vars
  have hncells := hM.ncells
  have hncons := hM.ncons
  obtain ⟨A1, c1, rfl, _, hr1⟩ := hM.cells.row
  obtain ⟨A2, c2, rfl, _, hr2⟩ := hM.cons.row
  have hB03 := bup hB hB3
  clear hM hb hB2 hn1
  obtain ⟨vars, xs, ys⟩ := s
  simp only at hright hvars hr1 hr2 hncells hncons
  obtain ⟨n, rfl⟩ : ∃ n : Nat, vars = n := ⟨vars.toNat, by omega⟩
  refine ⟨_, rfl, run_l tabOk ?_⟩
  conv => whnf
  refine wl_alloc tabOk rfl rfl rfl rfl rfl rfl ?_
  intro g3 w4 hn4
  refine wl_Sa tabOk hn4.blk rfl rfl rfl rfl rfl (by simp [Value.oneCell']) rfl rfl ?_
  intro w5 hp5
  have hB5 : Below w3.heap.size w3 w5 := hp5.below hn4.below (by have := hn4.at_; omega) (by have := hn4.size; omega)
  have hb3 : w5.heap[g3]? = some (.cells #[.int .i64 n, .slice A1 xs.length c1, .slice A2 ys.length c2] 30 (0, 0)) := hp5.blk
  have hr1 := hr1.up stays_Cell hB5
  have hr2 := hr2.up stays_Con hB5
  have hB05 := bup hB03 hB5
  clear hp5 hn4 hB03 hB5 hB3
  refine run_l tabOk ?_
  conv => whnf
  (repeat' (first | (refine wl_Lag tabOk hb3 rfl rfl rfl rfl rfl rfl (run_l tabOk ?_); conv => whnf) | (refine wl_add rfl rfl rfl rfl rfl rfl (by omega) (by omega) (run_l tabOk ?_); conv => whnf) | (refine wl_sub rfl rfl rfl rfl rfl rfl (by omega) (by omega) (run_l tabOk ?_); conv => whnf) | (refine wl_cvA tabOk rfl rfl rfl (by simp only [inK]; omega) rfl rfl rfl (run_l tabOk ?_); conv => whnf) | (refine wl_cvB tabOk rfl rfl rfl rfl rfl rfl (run_l tabOk ?_); conv => whnf) | (refine wl_rem rfl rfl rfl rfl rfl rfl (by omega) (by omega) (fun r hr hr0 hr1 hr2 => run_l tabOk ?_); conv => whnf) | (refine wl_quo rfl rfl rfl rfl rfl rfl (by omega) (by omega) (by simp only [inK]; omega) (run_l tabOk ?_); conv => whnf) | (refine wl_mul rfl rfl rfl rfl rfl rfl (by omega) (by omega) (run_l tabOk ?_); conv => whnf) | (refine gs_dt (by first | assumption | omega) ?_; conv => whnf) | (refine gs_df (by first | assumption | omega) ?_; conv => whnf) | (refine gs_t (by assumption) ?_; conv => whnf) | (refine gs_f (by assumption) ?_; conv => whnf) | (refine gs_d (fun hg => ?_) (fun hg => ?_) <;> conv => whnf) | (refine gs_n (fun hg => ?_) (fun hg => ?_) <;> conv => whnf) | (refine gs_nb (fun hg => ?_) (fun hg => ?_) <;> conv => whnf) | (refine gs_b (fun hg => ?_) (fun hg => ?_) <;> conv => whnf) | refine fin1 rfl rfl ?_))
  refine wl_C fn15 (leastPoints n xs ys A1 A2 c1 c2 w5 hr1 hr2 hright) rfl rfl rfl rfl rfl rfl rfl ?_
  rintro _ w6 ⟨M, AP, rfl, hIL, hRP, hB6⟩
  refine ⟨_, rfl, run_l tabOk ?_⟩
  conv => whnf
  (repeat' (first | (refine wl_Lag tabOk (blk_up hB6 hb3) rfl rfl rfl rfl rfl rfl (run_l tabOk ?_); conv => whnf) | (refine wl_add rfl rfl rfl rfl rfl rfl (by omega) (by omega) (run_l tabOk ?_); conv => whnf) | (refine wl_sub rfl rfl rfl rfl rfl rfl (by omega) (by omega) (run_l tabOk ?_); conv => whnf) | (refine wl_cvA tabOk rfl rfl rfl (by simp only [inK]; omega) rfl rfl rfl (run_l tabOk ?_); conv => whnf) | (refine wl_cvB tabOk rfl rfl rfl rfl rfl rfl (run_l tabOk ?_); conv => whnf) | (refine wl_rem rfl rfl rfl rfl rfl rfl (by omega) (by omega) (fun r hr hr0 hr1 hr2 => run_l tabOk ?_); conv => whnf) | (refine wl_quo rfl rfl rfl rfl rfl rfl (by omega) (by omega) (by simp only [inK]; omega) (run_l tabOk ?_); conv => whnf) | (refine wl_mul rfl rfl rfl rfl rfl rfl (by omega) (by omega) (run_l tabOk ?_); conv => whnf) | (refine gs_dt (by first | assumption | omega) ?_; conv => whnf) | (refine gs_df (by first | assumption | omega) ?_; conv => whnf) | (refine gs_t (by assumption) ?_; conv => whnf) | (refine gs_f (by assumption) ?_; conv => whnf) | (refine gs_d (fun hg => ?_) (fun hg => ?_) <;> conv => whnf) | (refine gs_n (fun hg => ?_) (fun hg => ?_) <;> conv => whnf) | (refine gs_nb (fun hg => ?_) (fun hg => ?_) <;> conv => whnf) | (refine gs_b (fun hg => ?_) (fun hg => ?_) <;> conv => whnf) | refine fin1 rfl rfl ?_))
  refine wl_C fn17 (refLeast n xs ys A1 A2 c1 c2 w6 (hr1.up stays_Cell hB6) (hr2.up stays_Con hB6) hright) rfl rfl rfl rfl rfl rfl rfl ?_
  rintro _ w7 ⟨M', AL, capL, rfl, hIL', hRL, _, hB7⟩
  have hMM := hIL'.unique hIL
  subst hMM
  have hpl : (ptsOf M').length = n := by have := pts_len hIL.sh; simpa using this
  have hRP7 := hRP.up stays_Ints hB7
  refine ⟨_, rfl, run_l tabOk ?_⟩
  conv => whnf
  have hcl := refSamePoints (ptsOf M') (ptsOf M') AP AL n capL w7 hRP7 hRL
  rw [hpl, samePts_refl] at hcl
  refine wl_C fn16 hcl rfl rfl rfl rfl rfl rfl rfl ?_
  rintro _ w8 ⟨rfl, hB8⟩
  have hB58 := bup (bup hB6 hB7) hB8
  refine ⟨_, rfl, run_l tabOk ?_⟩
  conv => whnf
  (repeat' (first | (refine wl_Lag tabOk (blk_up hB58 hb3) rfl rfl rfl rfl rfl rfl (run_l tabOk ?_); conv => whnf) | (refine wl_add rfl rfl rfl rfl rfl rfl (by omega) (by omega) (run_l tabOk ?_); conv => whnf) | (refine wl_sub rfl rfl rfl rfl rfl rfl (by omega) (by omega) (run_l tabOk ?_); conv => whnf) | (refine wl_cvA tabOk rfl rfl rfl (by simp only [inK]; omega) rfl rfl rfl (run_l tabOk ?_); conv => whnf) | (refine wl_cvB tabOk rfl rfl rfl rfl rfl rfl (run_l tabOk ?_); conv => whnf) | (refine wl_rem rfl rfl rfl rfl rfl rfl (by omega) (by omega) (fun r hr hr0 hr1 hr2 => run_l tabOk ?_); conv => whnf) | (refine wl_quo rfl rfl rfl rfl rfl rfl (by omega) (by omega) (by simp only [inK]; omega) (run_l tabOk ?_); conv => whnf) | (refine wl_mul rfl rfl rfl rfl rfl rfl (by omega) (by omega) (run_l tabOk ?_); conv => whnf) | (refine gs_dt (by first | assumption | omega) ?_; conv => whnf) | (refine gs_df (by first | assumption | omega) ?_; conv => whnf) | (refine gs_t (by assumption) ?_; conv => whnf) | (refine gs_f (by assumption) ?_; conv => whnf) | (refine gs_d (fun hg => ?_) (fun hg => ?_) <;> conv => whnf) | (refine gs_n (fun hg => ?_) (fun hg => ?_) <;> conv => whnf) | (refine gs_nb (fun hg => ?_) (fun hg => ?_) <;> conv => whnf) | (refine gs_b (fun hg => ?_) (fun hg => ?_) <;> conv => whnf) | refine fin1 rfl rfl ?_))
  have hcl := leastClosed ⟨n, xs, ys⟩ (ptsOf M') A1 A2 AP c1 c2 n w8 (hr1.up stays_Cell hB58) (hr2.up stays_Con hB58) (hRP7.up stays_Ints hB8)
  rw [hpl] at hcl
  refine wl_C fn12 hcl rfl rfl rfl rfl rfl rfl rfl ?_
  rintro _ w9 ⟨b, rfl, hbk, hB9⟩
  have hsh : Shape n xs.length M' := by simpa using hIL.sh
  have keep : ∀ zs : List Con, rightB ⟨n, xs, ys⟩ = true → ∀ N : Mat, Shape n xs.length N → ClosedM ⟨n, xs, ys⟩ N → Keeping ⟨n, xs, ys⟩ (ptsOf N) := fun zs hr N hN hc => ⟨hr, by simp [ptsOf, hN.rows], by simpa using okPts_pts hN, by simp only [Int.toNat_natCast]; rw [mat_pts hN]; exact hc⟩
  have hbt : b = true := hbk.2 (keep ys hright M' hsh hIL.closed)
  subst hbt
  have hB59 := bup hB58 hB9
  have hB09 := bup hB05 hB59
  have hb39 := blk_up hB59 hb3
  have hq1 := hr1.up stays_Cell hB59
  have hq2 := hr2.up stays_Con hB59
  have hp9 := hp.up stays_Ints hB09
  clear hbk hIL' hRL hRP hRP7 hB6 hB7 hB8 hB9 hB58 hr1 hr2 hb3
  refine ⟨_, rfl, run_l tabOk ?_⟩
  conv => whnf
  (repeat' (first | (refine wl_Lag tabOk hb39 rfl rfl rfl rfl rfl rfl (run_l tabOk ?_); conv => whnf) | (refine wl_add rfl rfl rfl rfl rfl rfl (by omega) (by omega) (run_l tabOk ?_); conv => whnf) | (refine wl_sub rfl rfl rfl rfl rfl rfl (by omega) (by omega) (run_l tabOk ?_); conv => whnf) | (refine wl_cvA tabOk rfl rfl rfl (by simp only [inK]; omega) rfl rfl rfl (run_l tabOk ?_); conv => whnf) | (refine wl_cvB tabOk rfl rfl rfl rfl rfl rfl (run_l tabOk ?_); conv => whnf) | (refine wl_rem rfl rfl rfl rfl rfl rfl (by omega) (by omega) (fun r hr hr0 hr1 hr2 => run_l tabOk ?_); conv => whnf) | (refine wl_quo rfl rfl rfl rfl rfl rfl (by omega) (by omega) (by simp only [inK]; omega) (run_l tabOk ?_); conv => whnf) | (refine wl_mul rfl rfl rfl rfl rfl rfl (by omega) (by omega) (run_l tabOk ?_); conv => whnf) | (refine gs_dt (by first | assumption | omega) ?_; conv => whnf) | (refine gs_df (by first | assumption | omega) ?_; conv => whnf) | (refine gs_t (by assumption) ?_; conv => whnf) | (refine gs_f (by assumption) ?_; conv => whnf) | (refine gs_d (fun hg => ?_) (fun hg => ?_) <;> conv => whnf) | (refine gs_n (fun hg => ?_) (fun hg => ?_) <;> conv => whnf) | (refine gs_nb (fun hg => ?_) (fun hg => ?_) <;> conv => whnf) | (refine gs_b (fun hg => ?_) (fun hg => ?_) <;> conv => whnf) | refine fin1 rfl rfl ?_))
  refine wl_alloc tabOk rfl rfl rfl rfl rfl rfl ?_
  intro g7 v1 hm1
  refine wl_Sa tabOk hm1.blk rfl rfl rfl rfl rfl (by simp [Value.oneCell']) rfl rfl ?_
  intro v2 hm2
  have hg7 := hm1.at_
  have hBv2 : Below w9.heap.size w9 v2 := hm2.below hm1.below (by omega) (by have := hm1.size; omega)
  have hb7 : v2.heap[g7]? = some (.cells #[.int .i64 n, .slice A1 xs.length c1, .slice A2 ys.length c2] 30 (0, 0)) := hm2.blk
  have hv2s : v2.heap.size = w9.heap.size + 1 := by have := hm1.size; have := hm2.size; omega
  clear hm1 hm2
  refine run_l tabOk ?_
  conv => whnf
  have hb3v := blk_up hBv2 hb39
  (repeat' (first | (refine wl_Lg tabOk hb3v rfl rfl rfl rfl rfl rfl rfl (run_l tabOk ?_); conv => whnf) | (refine wl_add rfl rfl rfl rfl rfl rfl (by omega) (by omega) (run_l tabOk ?_); conv => whnf) | (refine wl_sub rfl rfl rfl rfl rfl rfl (by omega) (by omega) (run_l tabOk ?_); conv => whnf) | (refine wl_cvA tabOk rfl rfl rfl (by simp only [inK]; omega) rfl rfl rfl (run_l tabOk ?_); conv => whnf) | (refine wl_cvB tabOk rfl rfl rfl rfl rfl rfl (run_l tabOk ?_); conv => whnf) | (refine wl_rem rfl rfl rfl rfl rfl rfl (by omega) (by omega) (fun r hr hr0 hr1 hr2 => run_l tabOk ?_); conv => whnf) | (refine wl_quo rfl rfl rfl rfl rfl rfl (by omega) (by omega) (by simp only [inK]; omega) (run_l tabOk ?_); conv => whnf) | (refine wl_mul rfl rfl rfl rfl rfl rfl (by omega) (by omega) (run_l tabOk ?_); conv => whnf) | (refine gs_dt (by first | assumption | omega) ?_; conv => whnf) | (refine gs_df (by first | assumption | omega) ?_; conv => whnf) | (refine gs_t (by assumption) ?_; conv => whnf) | (refine gs_f (by assumption) ?_; conv => whnf) | (refine gs_d (fun hg => ?_) (fun hg => ?_) <;> conv => whnf) | (refine gs_n (fun hg => ?_) (fun hg => ?_) <;> conv => whnf) | (refine gs_nb (fun hg => ?_) (fun hg => ?_) <;> conv => whnf) | (refine gs_b (fun hg => ?_) (fun hg => ?_) <;> conv => whnf) | refine fin1 rfl rfl ?_))
  have hlt2 := RowR.later stays_Con hq2 hBv2
  refine wl_apr tabOk 48 4 48 (own_nil v2 (w9.heap.size + 1) _ _) hlt2 (one_Later one_Con _) rfl rfl rfl rfl rfl rfl rfl rfl rfl rfl rfl (by omega) (by omega) (by omega) ?_
  intro A3 c3 v3 news hel3 hown3 hgr3 hob3
  simp only [Nat.zero_add, List.nil_append] at hown3 ⊢
  have hBv3 : Below w9.heap.size w9 v3 := bup hBv2 (below_of_grown hgr3)
  have hb73 := blk_up (below_of_grown hgr3) hb7
  have hL3 : LRow 4 dCon 48 (w9.heap.size + 1) w9 v3 (.slice A3 ys.length c3) ys := ⟨news, hown3, fun w' hb => Elems.later hel3 w' hb⟩
  refine run_l tabOk ?_
  conv => whnf
  refine wl_S (off := 2) tabOk hb73 rfl rfl rfl rfl rfl rfl (by simp) rfl rfl ?_
  intro v4 hp4
  have hown_ne : ∀ {W : World} {V : Value} {zs : List Con}, LRow 4 dCon 48 (w9.heap.size + 1) w9 W V zs → V.ownBlock ≠ some g7 := fun h e => by
    obtain ⟨flat, h1, _⟩ := h.own
    have := (h1.lt g7 e).1
    omega
  have hLput : ∀ {W W' : World} {V : Value} {zs : List Con} {cs : List Value}, LRow 4 dCon 48 (w9.heap.size + 1) w9 W V zs → Put W W' g7 cs 30 → LRow 4 dCon 48 (w9.heap.size + 1) w9 W' V zs := fun h hp => by
    have hne := hown_ne h
    obtain ⟨flat, h1, h2⟩ := h.own
    refine ⟨flat, h1.kept hp.grown ?_, h2⟩
    exact .inr hne
  have hL4 := hLput hL3 hp4
  have hBv4 : Below w9.heap.size w9 v4 := hp4.below hBv3 (by omega) hBv3.size
  have hb74 : v4.heap[g7]? = some (.cells #[.int .i64 n, .slice A1 xs.length c1, .slice A3 ys.length c3] 30 (0, 0)) := hp4.blk
  refine run_l tabOk ?_
  conv => whnf
  (repeat' (first | (refine wl_add rfl rfl rfl rfl rfl rfl (by omega) (by omega) (run_l tabOk ?_); conv => whnf) | (refine wl_sub rfl rfl rfl rfl rfl rfl (by omega) (by omega) (run_l tabOk ?_); conv => whnf) | (refine wl_cvA tabOk rfl rfl rfl (by simp only [inK]; omega) rfl rfl rfl (run_l tabOk ?_); conv => whnf) | (refine wl_cvB tabOk rfl rfl rfl rfl rfl rfl (run_l tabOk ?_); conv => whnf) | (refine wl_rem rfl rfl rfl rfl rfl rfl (by omega) (by omega) (fun r hr hr0 hr1 hr2 => run_l tabOk ?_); conv => whnf) | (refine wl_quo rfl rfl rfl rfl rfl rfl (by omega) (by omega) (by simp only [inK]; omega) (run_l tabOk ?_); conv => whnf) | (refine wl_mul rfl rfl rfl rfl rfl rfl (by omega) (by omega) (run_l tabOk ?_); conv => whnf) | (refine gs_dt (by first | assumption | omega) ?_; conv => whnf) | (refine gs_df (by first | assumption | omega) ?_; conv => whnf) | (refine gs_t (by assumption) ?_; conv => whnf) | (refine gs_f (by assumption) ?_; conv => whnf) | (refine gs_d (fun hg => ?_) (fun hg => ?_) <;> conv => whnf) | (refine gs_n (fun hg => ?_) (fun hg => ?_) <;> conv => whnf) | (refine gs_nb (fun hg => ?_) (fun hg => ?_) <;> conv => whnf) | (refine gs_b (fun hg => ?_) (fun hg => ?_) <;> conv => whnf) | refine fin1 rfl rfl ?_))
  clear hp4 hL3 hb73 hBv3 hown3 hel3 hob3 hgr3 hlt2 hb7 hBv2
  refine lp_loop tabOk (X := Nat × Option Addr × Nat × List Con) (fun y => [(1, .slice P ps.length pc), (5, .pointer (some ⟨g3, 0, none⟩)), (7, .pointer (some ⟨g7, 0, none⟩)), (8, .int .i64 y.1)])
    (fun y wr => y.1 ≤ ps.length ∧ Below w9.heap.size w9 wr ∧ wr.heap[g7]? = some (.cells #[.int .i64 n, .slice A1 xs.length c1, .slice y.2.1 y.2.2.2.length y.2.2.1] 30 (0, 0)) ∧ LRow 4 dCon 48 (w9.heap.size + 1) w9 wr (.slice y.2.1 y.2.2.2.length y.2.2.1) y.2.2.2 ∧ rightB ⟨n, xs, y.2.2.2⟩ = true ∧ (∀ N, ClosedM ⟨n, xs, y.2.2.2⟩ N → ClosedM ⟨n, xs, ys⟩ N) ∧ y.2.2.2.length ≤ 40 + 5 * y.1) (fun y => ps.length - y.1) (0, A3, c3, ys) ⟨rfl, rfl, rfl, rfl, trivial⟩ ⟨by simp, hBv4, hb74, hL4, hright, fun _ h => h, by simp only; omega⟩ ?_
  clear hL4 hBv4 hb74
  rintro ⟨i, D, dc, zs⟩ G wr ⟨hi, hBr, hb7, hL, hzr, hzc, hzl⟩
  simp only at hi hb7 hL hzr hzc hzl
  dsimp only
  conv => whnf
  have hb3r := blk_up hBr hb39
  by_cases hil : i < ps.length
  · obtain ⟨p, ad, E, ec, hpp, rfl, e0, _, er⟩ := rowsE (hp9.up stays_Ints hBr) i hil
    have hpl := er.out.1
    (repeat' (first | (refine wl_add rfl rfl rfl rfl rfl rfl (by omega) (by omega) (run_l tabOk ?_); conv => whnf) | (refine wl_sub rfl rfl rfl rfl rfl rfl (by omega) (by omega) (run_l tabOk ?_); conv => whnf) | (refine wl_cvA tabOk rfl rfl rfl (by simp only [inK]; omega) rfl rfl rfl (run_l tabOk ?_); conv => whnf) | (refine wl_cvB tabOk rfl rfl rfl rfl rfl rfl (run_l tabOk ?_); conv => whnf) | (refine wl_rem rfl rfl rfl rfl rfl rfl (by omega) (by omega) (fun r hr hr0 hr1 hr2 => run_l tabOk ?_); conv => whnf) | (refine wl_quo rfl rfl rfl rfl rfl rfl (by omega) (by omega) (by simp only [inK]; omega) (run_l tabOk ?_); conv => whnf) | (refine wl_mul rfl rfl rfl rfl rfl rfl (by omega) (by omega) (run_l tabOk ?_); conv => whnf) | (refine gs_dt (by first | assumption | omega) ?_; conv => whnf) | (refine gs_df (by first | assumption | omega) ?_; conv => whnf) | (refine gs_t (by assumption) ?_; conv => whnf) | (refine gs_f (by assumption) ?_; conv => whnf) | (refine gs_d (fun hg => ?_) (fun hg => ?_) <;> conv => whnf) | (refine gs_n (fun hg => ?_) (fun hg => ?_) <;> conv => whnf) | (refine gs_nb (fun hg => ?_) (fun hg => ?_) <;> conv => whnf) | (refine gs_b (fun hg => ?_) (fun hg => ?_) <;> conv => whnf) | refine fin1 rfl rfl ?_))
    refine lp_loop tabOk (X := Nat × Option Addr × Nat × List Con) (fun y => [(1, .slice (some ad) ps.length pc), (5, .pointer (some ⟨g3, 0, none⟩)), (7, .pointer (some ⟨g7, 0, none⟩)), (8, .int .i64 i), (9, .int .i64 y.1)])
      (fun y wk => y.1 ≤ 5 ∧ y.1 ≤ p.length ∧ Below w9.heap.size w9 wk ∧ wk.heap[g7]? = some (.cells #[.int .i64 n, .slice A1 xs.length c1, .slice y.2.1 y.2.2.2.length y.2.2.1] 30 (0, 0)) ∧ LRow 4 dCon 48 (w9.heap.size + 1) w9 wk (.slice y.2.1 y.2.2.2.length y.2.2.1) y.2.2.2 ∧ rightB ⟨n, xs, y.2.2.2⟩ = true ∧ (∀ N, ClosedM ⟨n, xs, y.2.2.2⟩ N → ClosedM ⟨n, xs, ys⟩ N) ∧ y.2.2.2.length ≤ 40 + 5 * i + y.1) (fun y => 5 - y.1) (0, D, dc, zs) ⟨rfl, rfl, rfl, rfl, rfl, trivial⟩ ⟨by simp, by simp, hBr, hb7, hL, hzr, hzc, by simp only; omega⟩ ?_
    clear hBr hb7 hL hzr hzc hzl hb3r e0 er
    rintro ⟨k, D2, d2, zs⟩ G2 wk ⟨hk5, hkp, hBk, hb7, hL, hzr, hzc, hzl⟩
    simp only at hk5 hkp hb7 hL hzr hzc hzl
    obtain ⟨p', ad', E', ec', hpp', e', e0, _, er⟩ := rowsE (hp9.up stays_Ints hBk) i hil
    cases e'
    have e1 : p' = p := hpp'.out.symm.trans hpp.out
    subst e1
    dsimp only
    conv => whnf
    have hb3k := blk_up hBk hb39
    by_cases hkl : k < p'.length
    · by_cases hk4 : k < 5
      · by_cases hx0 : 0 < xs.length
        · (repeat' (first | (refine wl_Lg tabOk hb3k rfl rfl rfl rfl rfl rfl rfl (run_l tabOk ?_); conv => whnf) | (refine wl_L tabOk rfl rfl rfl rfl rfl rfl e0 (run_l tabOk ?_); conv => whnf) | (refine wl_Xn tabOk 32 1 rfl rfl rfl rfl rfl rfl rfl (by omega) (run_l tabOk ?_); conv => whnf) | (refine wl_add rfl rfl rfl rfl rfl rfl (by omega) (by omega) (run_l tabOk ?_); conv => whnf) | (refine wl_sub rfl rfl rfl rfl rfl rfl (by omega) (by omega) (run_l tabOk ?_); conv => whnf) | (refine wl_cvA tabOk rfl rfl rfl (by simp only [inK]; omega) rfl rfl rfl (run_l tabOk ?_); conv => whnf) | (refine wl_cvB tabOk rfl rfl rfl rfl rfl rfl (run_l tabOk ?_); conv => whnf) | (refine wl_rem rfl rfl rfl rfl rfl rfl (by omega) (by omega) (fun r hr hr0 hr1 hr2 => run_l tabOk ?_); conv => whnf) | (refine wl_quo rfl rfl rfl rfl rfl rfl (by omega) (by omega) (by simp only [inK]; omega) (run_l tabOk ?_); conv => whnf) | (refine wl_mul rfl rfl rfl rfl rfl rfl (by omega) (by omega) (run_l tabOk ?_); conv => whnf) | (refine gs_dt (by first | assumption | omega) ?_; conv => whnf) | (refine gs_df (by first | assumption | omega) ?_; conv => whnf) | (refine gs_t (by assumption) ?_; conv => whnf) | (refine gs_f (by assumption) ?_; conv => whnf) | (refine gs_d (fun hg => ?_) (fun hg => ?_) <;> conv => whnf) | (refine gs_n (fun hg => ?_) (fun hg => ?_) <;> conv => whnf) | (refine gs_nb (fun hg => ?_) (fun hg => ?_) <;> conv => whnf) | (refine gs_b (fun hg => ?_) (fun hg => ?_) <;> conv => whnf) | refine fin1 rfl rfl ?_))
          obtain ⟨ob, ad2, hob, rfl, f0, ho1, ho2⟩ := intsE er.out k hkl
          refine wc_qt 21 22 (stable_Bw _) tabOk mixed (by kernel_rfl) rfl (Below.refl _ _) ?_; conv => whnf
          (repeat' (first | (refine wq_Lg tabOk hb3k rfl rfl rfl rfl rfl rfl rfl (run_q tabOk ?_); conv => whnf) | (refine wq_Lg tabOk hb7 rfl rfl rfl rfl rfl rfl rfl (run_q tabOk ?_); conv => whnf) | (refine wq_L tabOk rfl rfl rfl rfl rfl rfl e0 (run_q tabOk ?_); conv => whnf) | (refine wq_L tabOk rfl rfl rfl rfl rfl rfl f0 (run_q tabOk ?_); conv => whnf) | (refine wq_Xn tabOk 32 1 rfl rfl rfl rfl rfl rfl rfl (by omega) (run_q tabOk ?_); conv => whnf) | (refine wq_Xn tabOk 3 1 rfl rfl rfl rfl rfl rfl rfl (by omega) (run_q tabOk ?_); conv => whnf) | (refine wq_rem rfl rfl rfl rfl rfl rfl (wrapu0' _) (by omega) (fun r hr hr0 hr1 hr2 => run_q tabOk ?_); (conv => whnf)) | (refine wq_add rfl rfl rfl rfl rfl rfl (by omega) (by omega) (run_q tabOk ?_); conv => whnf) | (refine wq_sub rfl rfl rfl rfl rfl rfl (by omega) (by omega) (run_q tabOk ?_); conv => whnf) | (refine wq_cvA tabOk rfl rfl rfl (by simp only [inK]; omega) rfl rfl rfl (run_q tabOk ?_); conv => whnf) | (refine wq_cvB tabOk rfl rfl rfl rfl rfl rfl (run_q tabOk ?_); conv => whnf) | (refine wq_rem rfl rfl rfl rfl rfl rfl (by omega) (by omega) (fun r hr hr0 hr1 hr2 => run_q tabOk ?_); conv => whnf) | (refine wq_quo rfl rfl rfl rfl rfl rfl (by omega) (by omega) (by simp only [inK]; omega) (run_q tabOk ?_); conv => whnf) | (refine wq_mul rfl rfl rfl rfl rfl rfl (by omega) (by omega) (run_q tabOk ?_); conv => whnf) | (refine gs_dt (by first | assumption | omega) ?_; conv => whnf) | (refine gs_df (by first | assumption | omega) ?_; conv => whnf) | (refine gs_t (by assumption) ?_; conv => whnf) | (refine gs_f (by assumption) ?_; conv => whnf) | (refine gs_d (fun hg => ?_) (fun hg => ?_) <;> conv => whnf) | (refine gs_n (fun hg => ?_) (fun hg => ?_) <;> conv => whnf) | (refine gs_nb (fun hg => ?_) (fun hg => ?_) <;> conv => whnf) | (refine gs_b (fun hg => ?_) (fun hg => ?_) <;> conv => whnf)))
          rename_i r1 hq hq0 hq1 hq2
          obtain ⟨r2, hr2'⟩ : ∃ r2, r2 = r := ⟨_, rfl⟩
          subst hr2'
          intro Y0 _ hY0
          conv => whnf
          refine wa_bs tabOk 48 4 rfl rfl rfl rfl rfl rfl rfl rfl rfl ?_
          intro g8 Y1' hn8
          refine ⟨hn8.up hY0, fun Y1 hY1' _ => ?_⟩
          conv => whnf
          have hY1 : Below wk.heap.size wk Y1 := bup (hn8.up hY0) hY1'
          have hLY := hL.up hY1
          have hBY := bup hBk hY1
          have hb7Y := blk_up hY1 hb7
          obtain ⟨flat, hfl, hel⟩ := hLY.own
          have hsz := hBk.size
          have hsz2 := hY1.size
          have hg7l := blk_lt hb7
          refine wl_ap tabOk 48 4 48 hfl (blk_up hY1' hn8.blk) rfl rfl rfl rfl rfl rfl rfl rfl rfl rfl rfl rfl (by simp [Value.oneCell']) (by omega) (by omega) (by omega) ?_
          intro A8 cap8 Y2 hown hgr hob
          refine run_l tabOk ?_
          conv => whnf
          have hne7 : some g7 ≠ (Value.slice D2 zs.length d2).ownBlock := fun e => hown_ne hLY e.symm
          have hb72 := (hgr.block g7 (by omega) hne7).trans hb7Y
          have hBY2 : Below w9.heap.size w9 Y2 := hBY.grown hgr hBY.size (fun k hk => by have := (hfl.lt k hk).1; omega)
          refine wl_S (off := 2) tabOk hb72 rfl rfl rfl rfl rfl rfl (by simp) rfl rfl ?_
          intro Y3 hp8
          refine run_l tabOk ?_
          conv => whnf
          (repeat' (first | (refine wl_add rfl rfl rfl rfl rfl rfl (by omega) (by omega) (run_l tabOk ?_); conv => whnf) | (refine wl_sub rfl rfl rfl rfl rfl rfl (by omega) (by omega) (run_l tabOk ?_); conv => whnf) | (refine wl_cvA tabOk rfl rfl rfl (by simp only [inK]; omega) rfl rfl rfl (run_l tabOk ?_); conv => whnf) | (refine wl_cvB tabOk rfl rfl rfl rfl rfl rfl (run_l tabOk ?_); conv => whnf) | (refine wl_rem rfl rfl rfl rfl rfl rfl (by omega) (by omega) (fun r hr hr0 hr1 hr2 => run_l tabOk ?_); conv => whnf) | (refine wl_quo rfl rfl rfl rfl rfl rfl (by omega) (by omega) (by simp only [inK]; omega) (run_l tabOk ?_); conv => whnf) | (refine wl_mul rfl rfl rfl rfl rfl rfl (by omega) (by omega) (run_l tabOk ?_); conv => whnf) | (refine gs_dt (by first | assumption | omega) ?_; conv => whnf) | (refine gs_df (by first | assumption | omega) ?_; conv => whnf) | (refine gs_t (by assumption) ?_; conv => whnf) | (refine gs_f (by assumption) ?_; conv => whnf) | (refine gs_d (fun hg => ?_) (fun hg => ?_) <;> conv => whnf) | (refine gs_n (fun hg => ?_) (fun hg => ?_) <;> conv => whnf) | (refine gs_nb (fun hg => ?_) (fun hg => ?_) <;> conv => whnf) | (refine gs_b (fun hg => ?_) (fun hg => ?_) <;> conv => whnf) | refine fin1 rfl rfl ?_))
          have hcon : ∀ w', dCon w' [.int .u8 1, .int .i64 r1, .int .i64 r2, .slice none 0 0] ⟨1, r1, r2, []⟩ := fun w' => dCon_nil w' 1 r1 r2 (by omega) (by omega) (by omega)
          have hLn : LRow 4 dCon 48 (w9.heap.size + 1) w9 Y2 (.slice A8 (zs.length + 1) cap8) (zs ++ [⟨1, r1, r2, []⟩]) := ⟨_, by simpa using hown, fun w' hb => (hel w' hb).push rfl (hcon w')⟩
          have elen : zs.length + 1 = (zs ++ [(⟨1, r1, r2, []⟩ : Con)]).length := by simp
          have hb7n : Y3.heap[g7]? = some (.cells #[.int .i64 n, .slice A1 xs.length c1, .slice A8 (zs.length + 1) cap8] 30 (0, 0)) := hp8.blk
          rw [elen] at hLn hb7n
          refine ⟨(k + 1, A8, cap8, zs ++ [⟨1, r1, r2, []⟩]), ⟨rfl, rfl, rfl, rfl, rfl, trivial⟩, ⟨by simp only; omega, by simp only; omega, hp8.below hBY2 (by omega) hBY2.size, hb7n, hLput hLn hp8, right_push hzr (by omega) ?_, fun N hN => hzc N (closed_push hN), by simp only [List.length_append, List.length_singleton]; omega⟩, by simp only; omega⟩
          simp [conOk, inR]
          exact ⟨⟨hq0, hq1⟩, hr0, hr1⟩
        · (repeat' (first | (refine wl_Lg tabOk hb3k rfl rfl rfl rfl rfl rfl rfl (run_l tabOk ?_); conv => whnf) | (refine wl_L tabOk rfl rfl rfl rfl rfl rfl e0 (run_l tabOk ?_); conv => whnf) | (refine wl_Xn tabOk 32 1 rfl rfl rfl rfl rfl rfl rfl (by omega) (run_l tabOk ?_); conv => whnf) | (refine wl_add rfl rfl rfl rfl rfl rfl (by omega) (by omega) (run_l tabOk ?_); conv => whnf) | (refine wl_sub rfl rfl rfl rfl rfl rfl (by omega) (by omega) (run_l tabOk ?_); conv => whnf) | (refine wl_cvA tabOk rfl rfl rfl (by simp only [inK]; omega) rfl rfl rfl (run_l tabOk ?_); conv => whnf) | (refine wl_cvB tabOk rfl rfl rfl rfl rfl rfl (run_l tabOk ?_); conv => whnf) | (refine wl_rem rfl rfl rfl rfl rfl rfl (by omega) (by omega) (fun r hr hr0 hr1 hr2 => run_l tabOk ?_); conv => whnf) | (refine wl_quo rfl rfl rfl rfl rfl rfl (by omega) (by omega) (by simp only [inK]; omega) (run_l tabOk ?_); conv => whnf) | (refine wl_mul rfl rfl rfl rfl rfl rfl (by omega) (by omega) (run_l tabOk ?_); conv => whnf) | (refine gs_dt (by first | assumption | omega) ?_; conv => whnf) | (refine gs_df (by first | assumption | omega) ?_; conv => whnf) | (refine gs_t (by assumption) ?_; conv => whnf) | (refine gs_f (by assumption) ?_; conv => whnf) | (refine gs_d (fun hg => ?_) (fun hg => ?_) <;> conv => whnf) | (refine gs_n (fun hg => ?_) (fun hg => ?_) <;> conv => whnf) | (refine gs_nb (fun hg => ?_) (fun hg => ?_) <;> conv => whnf) | (refine gs_b (fun hg => ?_) (fun hg => ?_) <;> conv => whnf) | refine fin1 rfl rfl ?_))
          exact ⟨(i + 1, D2, d2, zs), ⟨rfl, rfl, rfl, rfl, trivial⟩, ⟨by simp only; omega, hBk, hb7, hL, hzr, hzc, by simp only; omega⟩, by simp only; omega⟩
      · (repeat' (first | (refine wl_Lg tabOk hb3k rfl rfl rfl rfl rfl rfl rfl (run_l tabOk ?_); conv => whnf) | (refine wl_L tabOk rfl rfl rfl rfl rfl rfl e0 (run_l tabOk ?_); conv => whnf) | (refine wl_Xn tabOk 32 1 rfl rfl rfl rfl rfl rfl rfl (by omega) (run_l tabOk ?_); conv => whnf) | (refine wl_add rfl rfl rfl rfl rfl rfl (by omega) (by omega) (run_l tabOk ?_); conv => whnf) | (refine wl_sub rfl rfl rfl rfl rfl rfl (by omega) (by omega) (run_l tabOk ?_); conv => whnf) | (refine wl_cvA tabOk rfl rfl rfl (by simp only [inK]; omega) rfl rfl rfl (run_l tabOk ?_); conv => whnf) | (refine wl_cvB tabOk rfl rfl rfl rfl rfl rfl (run_l tabOk ?_); conv => whnf) | (refine wl_rem rfl rfl rfl rfl rfl rfl (by omega) (by omega) (fun r hr hr0 hr1 hr2 => run_l tabOk ?_); conv => whnf) | (refine wl_quo rfl rfl rfl rfl rfl rfl (by omega) (by omega) (by simp only [inK]; omega) (run_l tabOk ?_); conv => whnf) | (refine wl_mul rfl rfl rfl rfl rfl rfl (by omega) (by omega) (run_l tabOk ?_); conv => whnf) | (refine gs_dt (by first | assumption | omega) ?_; conv => whnf) | (refine gs_df (by first | assumption | omega) ?_; conv => whnf) | (refine gs_t (by assumption) ?_; conv => whnf) | (refine gs_f (by assumption) ?_; conv => whnf) | (refine gs_d (fun hg => ?_) (fun hg => ?_) <;> conv => whnf) | (refine gs_n (fun hg => ?_) (fun hg => ?_) <;> conv => whnf) | (refine gs_nb (fun hg => ?_) (fun hg => ?_) <;> conv => whnf) | (refine gs_b (fun hg => ?_) (fun hg => ?_) <;> conv => whnf) | refine fin1 rfl rfl ?_))
        exact ⟨(i + 1, D2, d2, zs), ⟨rfl, rfl, rfl, rfl, trivial⟩, ⟨by simp only; omega, hBk, hb7, hL, hzr, hzc, by simp only; omega⟩, by simp only; omega⟩
    · (repeat' (first | (refine wl_Lg tabOk hb3k rfl rfl rfl rfl rfl rfl rfl (run_l tabOk ?_); conv => whnf) | (refine wl_L tabOk rfl rfl rfl rfl rfl rfl e0 (run_l tabOk ?_); conv => whnf) | (refine wl_Xn tabOk 32 1 rfl rfl rfl rfl rfl rfl rfl (by omega) (run_l tabOk ?_); conv => whnf) | (refine wl_add rfl rfl rfl rfl rfl rfl (by omega) (by omega) (run_l tabOk ?_); conv => whnf) | (refine wl_sub rfl rfl rfl rfl rfl rfl (by omega) (by omega) (run_l tabOk ?_); conv => whnf) | (refine wl_cvA tabOk rfl rfl rfl (by simp only [inK]; omega) rfl rfl rfl (run_l tabOk ?_); conv => whnf) | (refine wl_cvB tabOk rfl rfl rfl rfl rfl rfl (run_l tabOk ?_); conv => whnf) | (refine wl_rem rfl rfl rfl rfl rfl rfl (by omega) (by omega) (fun r hr hr0 hr1 hr2 => run_l tabOk ?_); conv => whnf) | (refine wl_quo rfl rfl rfl rfl rfl rfl (by omega) (by omega) (by simp only [inK]; omega) (run_l tabOk ?_); conv => whnf) | (refine wl_mul rfl rfl rfl rfl rfl rfl (by omega) (by omega) (run_l tabOk ?_); conv => whnf) | (refine gs_dt (by first | assumption | omega) ?_; conv => whnf) | (refine gs_df (by first | assumption | omega) ?_; conv => whnf) | (refine gs_t (by assumption) ?_; conv => whnf) | (refine gs_f (by assumption) ?_; conv => whnf) | (refine gs_d (fun hg => ?_) (fun hg => ?_) <;> conv => whnf) | (refine gs_n (fun hg => ?_) (fun hg => ?_) <;> conv => whnf) | (refine gs_nb (fun hg => ?_) (fun hg => ?_) <;> conv => whnf) | (refine gs_b (fun hg => ?_) (fun hg => ?_) <;> conv => whnf) | refine fin1 rfl rfl ?_))
      exact ⟨(i + 1, D2, d2, zs), ⟨rfl, rfl, rfl, rfl, trivial⟩, ⟨by simp only; omega, hBk, hb7, hL, hzr, hzc, by simp only; omega⟩, by simp only; omega⟩
  · (repeat' (first | (refine wl_add rfl rfl rfl rfl rfl rfl (by omega) (by omega) (run_l tabOk ?_); conv => whnf) | (refine wl_sub rfl rfl rfl rfl rfl rfl (by omega) (by omega) (run_l tabOk ?_); conv => whnf) | (refine wl_cvA tabOk rfl rfl rfl (by simp only [inK]; omega) rfl rfl rfl (run_l tabOk ?_); conv => whnf) | (refine wl_cvB tabOk rfl rfl rfl rfl rfl rfl (run_l tabOk ?_); conv => whnf) | (refine wl_rem rfl rfl rfl rfl rfl rfl (by omega) (by omega) (fun r hr hr0 hr1 hr2 => run_l tabOk ?_); conv => whnf) | (refine wl_quo rfl rfl rfl rfl rfl rfl (by omega) (by omega) (by simp only [inK]; omega) (run_l tabOk ?_); conv => whnf) | (refine wl_mul rfl rfl rfl rfl rfl rfl (by omega) (by omega) (run_l tabOk ?_); conv => whnf) | (refine gs_dt (by first | assumption | omega) ?_; conv => whnf) | (refine gs_df (by first | assumption | omega) ?_; conv => whnf) | (refine gs_t (by assumption) ?_; conv => whnf) | (refine gs_f (by assumption) ?_; conv => whnf) | (refine gs_d (fun hg => ?_) (fun hg => ?_) <;> conv => whnf) | (refine gs_n (fun hg => ?_) (fun hg => ?_) <;> conv => whnf) | (refine gs_nb (fun hg => ?_) (fun hg => ?_) <;> conv => whnf) | (refine gs_b (fun hg => ?_) (fun hg => ?_) <;> conv => whnf) | refine fin1 rfl rfl ?_))
    have hLr := hL.rowAt hBr
    refine wc_qx [0, 1] 2 4 (stable_Bw wr) tabOk mixed (by kernel_rfl) (Below.refl _ _) ?_
    conv => whnf
    have kb3 : ∀ w', Below wr.heap.size wr w' → cellsAt w' ⟨g3, 0, none⟩ 0 [.int .i64 n, .slice A1 xs.length c1, .slice A2 ys.length c2] := fun w' h => cellsAt_blk (blk_up h hb3r) _ 0 0 (by simp)
    have kb7 : ∀ w', Below wr.heap.size wr w' → cellsAt w' ⟨g7, 0, none⟩ 0 [.int .i64 n, .slice A1 xs.length c1, .slice D zs.length dc] := fun w' h => cellsAt_blk (blk_up h hb7) _ 0 0 (by simp)
    (repeat' (first | (refine wq_LaC tabOk kb3 rfl rfl rfl rfl rfl rfl (run_q tabOk ?_); conv => whnf) | (refine wq_LaC tabOk kb7 rfl rfl rfl rfl rfl rfl (run_q tabOk ?_); conv => whnf) | (refine wq_add rfl rfl rfl rfl rfl rfl (by omega) (by omega) (run_q tabOk ?_); conv => whnf) | (refine wq_sub rfl rfl rfl rfl rfl rfl (by omega) (by omega) (run_q tabOk ?_); conv => whnf) | (refine wq_cvA tabOk rfl rfl rfl (by simp only [inK]; omega) rfl rfl rfl (run_q tabOk ?_); conv => whnf) | (refine wq_cvB tabOk rfl rfl rfl rfl rfl rfl (run_q tabOk ?_); conv => whnf) | (refine wq_rem rfl rfl rfl rfl rfl rfl (by omega) (by omega) (fun r hr hr0 hr1 hr2 => run_q tabOk ?_); conv => whnf) | (refine wq_quo rfl rfl rfl rfl rfl rfl (by omega) (by omega) (by simp only [inK]; omega) (run_q tabOk ?_); conv => whnf) | (refine wq_mul rfl rfl rfl rfl rfl rfl (by omega) (by omega) (run_q tabOk ?_); conv => whnf) | (refine gs_dt (by first | assumption | omega) ?_; conv => whnf) | (refine gs_df (by first | assumption | omega) ?_; conv => whnf) | (refine gs_t (by assumption) ?_; conv => whnf) | (refine gs_f (by assumption) ?_; conv => whnf) | (refine gs_d (fun hg => ?_) (fun hg => ?_) <;> conv => whnf) | (refine gs_n (fun hg => ?_) (fun hg => ?_) <;> conv => whnf) | (refine gs_nb (fun hg => ?_) (fun hg => ?_) <;> conv => whnf) | (refine gs_b (fun hg => ?_) (fun hg => ?_) <;> conv => whnf)))
    intro W hC _
    conv => whnf
    refine And.intro ?_ trivial
    conv => whnf
    refine wb_C fn15 (leastPoints n xs zs A1 D c1 dc W (hq1.up stays_Cell (bup hBr hC)) (hLr.up stays_Con hC) hzr) rfl rfl rfl rfl rfl rfl ?_
    rintro _ wP ⟨M2, AP2, rfl, hIP, hRP, hBP⟩
    have hlP := pts_len hIP.sh
    simp only [Int.toNat_natCast] at hlP
    refine ⟨_, rfl, bup hC hBP, fun W hW hC => ?_⟩
    conv => whnf
    refine And.intro ?_ trivial
    conv => whnf
    have hRP := hRP.up stays_Ints hW
    have hcl := leastClosed ⟨n, xs, ys⟩ (ptsOf M2) A1 A2 AP2 c1 c2 n W (hq1.up stays_Cell (bup hBr hC)) (hq2.up stays_Con (bup hBr hC)) hRP
    rw [hlP] at hcl
    refine wb_C fn12 hcl rfl rfl rfl rfl rfl rfl ?_
    rintro _ wC ⟨b, rfl, hbk, hBC⟩
    have hshP : Shape n xs.length M2 := by simpa using hIP.sh
    have hbt : b = true := hbk.2 (keep ys hright M2 hshP (hzc M2 hIP.closed))
    subst hbt
    refine ⟨_, rfl, bup hC hBC, fun W hW hC => ?_⟩
    conv => whnf
    (repeat' (first | (refine wl_add rfl rfl rfl rfl rfl rfl (by omega) (by omega) (run_l tabOk ?_); conv => whnf) | (refine wl_sub rfl rfl rfl rfl rfl rfl (by omega) (by omega) (run_l tabOk ?_); conv => whnf) | (refine wl_cvA tabOk rfl rfl rfl (by simp only [inK]; omega) rfl rfl rfl (run_l tabOk ?_); conv => whnf) | (refine wl_cvB tabOk rfl rfl rfl rfl rfl rfl (run_l tabOk ?_); conv => whnf) | (refine wl_rem rfl rfl rfl rfl rfl rfl (by omega) (by omega) (fun r hr hr0 hr1 hr2 => run_l tabOk ?_); conv => whnf) | (refine wl_quo rfl rfl rfl rfl rfl rfl (by omega) (by omega) (by simp only [inK]; omega) (run_l tabOk ?_); conv => whnf) | (refine wl_mul rfl rfl rfl rfl rfl rfl (by omega) (by omega) (run_l tabOk ?_); conv => whnf) | (refine gs_dt (by first | assumption | omega) ?_; conv => whnf) | (refine gs_df (by first | assumption | omega) ?_; conv => whnf) | (refine gs_t (by assumption) ?_; conv => whnf) | (refine gs_f (by assumption) ?_; conv => whnf) | (refine gs_d (fun hg => ?_) (fun hg => ?_) <;> conv => whnf) | (refine gs_n (fun hg => ?_) (fun hg => ?_) <;> conv => whnf) | (refine gs_nb (fun hg => ?_) (fun hg => ?_) <;> conv => whnf) | (refine gs_b (fun hg => ?_) (fun hg => ?_) <;> conv => whnf) | refine fin1 rfl rfl ?_))
    exact ⟨rfl, bup hB09 (bup hBr hC)⟩
end Go.Proofs.Ytkmnhkfgjadppaa
