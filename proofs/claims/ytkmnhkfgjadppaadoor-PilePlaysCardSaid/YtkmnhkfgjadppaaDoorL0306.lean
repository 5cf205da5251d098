/- The walk of PilePlays. -/
import Derived.Test.YtkmnhkfgjadppaaDoorQ03
namespace Go.Proofs.YtkmnhkfgjadppaaDoor
open Go.RowKit
set_option linter.unusedVariables false
set_option linter.unusedSimpArgs false
set_option maxRecDepth 100000
structure PAct where
  k : Int
  n : Int
deriving Inhabited
def dPAct : Dec PAct := fun _ cs x => cs = [.int .u8 x.k, .int .i64 x.n] ∧ (0 ≤ x.k ∧ x.k ≤ 255) ∧ -9223372036854775808 ≤ x.n ∧ x.n ≤ 9223372036854775807
theorem stays_PAct : Stays dPAct := ⟨fun _ _ _ _ _ h => h⟩
theorem two_of {l : List Value} (h : l.length = 2) : ∃ a b, l = [a, b] := by
  match l, h with
  | [a, b], _ => exact ⟨a, b, rfl⟩
theorem cellsPAct : Tryd.prog.cellsOf 47 = 2 := by kernel_rfl
theorem opens_PAct {H : Type} {enc : TypeId × Value → H} {w : World} {base : Nat} {spare held} : Opens enc Tryd.prog w base spare held 47 dPAct := fun h => by
  obtain ⟨hl, n, hf⟩ := fields_of Tryd.underlying47 h
  rw [cellsPAct] at hl
  obtain ⟨c0, c1, rfl⟩ := two_of hl
  obtain ⟨y0, e0⟩ := hf 0 _ rfl
  obtain ⟨y1, e1⟩ := hf 1 _ rfl
  simp [cellsU8, cellsI] at e0 e1
  obtain ⟨x0, h0, r0⟩ := opens_I Tryd.underlying5 e0
  obtain ⟨x1, h1, r1⟩ := opens_I Tryd.underlying3 e1
  simp at h0 h1
  exact ⟨⟨x0, x1⟩, by simp [h0, h1], r0, r1⟩
theorem opens_PActs {H : Type} {enc : TypeId × Value → H} {w : World} {base : Nat} {spare held} : Opens enc Tryd.prog w base spare held 44 (dS 2 dPAct) := opens_S (sz := 2) Tryd.underlying44 cellsPAct opens_PAct
theorem pacts_at {w : World} {A : Option Addr} {xs : List PAct} (h : RowR 2 dPAct w A xs) (i : Nat) (hi : i < xs.length) :
    ∃ ad, A = some ad ∧ w.cell? (ad.add (i * 2)) = some (.int .u8 xs[i]!.k) ∧ w.cell? ⟨(ad.add (i * 2)).block, (ad.add (i * 2)).off + 1, none⟩ = some (.int .i64 xs[i]!.n) ∧ (0 ≤ xs[i]!.k ∧ xs[i]!.k ≤ 255) ∧ -9223372036854775808 ≤ xs[i]!.n ∧ xs[i]!.n ≤ 9223372036854775807 := by
  obtain ⟨ad, cs, e, l, hc, hd, hr⟩ := row_at h i hi
  rw [hd] at hc
  obtain ⟨h1, h2, _⟩ := hc
  refine ⟨ad, e, ?_, ?_, hr⟩
  · rwa [addr_add0] at h1
  · rw [add_field _ _ _ (by omega)]
    rwa [add_add] at h2
set_option maxHeartbeats 16000000 in
theorem lawPilePlays (acts : List PAct) (A : Option Addr) (c : Nat) (w : World) (hT : Tab w) (h : RowR 2 dPAct w A acts) (hlc : acts.length ≤ c) :
    Calls Tryd.prog 8 #[.slice A acts.length c] w fun e w' => e = .returned (.bool true) ∧ Below w.heap.size w w' := by
  have hlm := h.1
  refine enterR (args := [.slice A acts.length c]) tabOk Tryd.func8 rfl Tryd.ntmps8 rfl ?_; conv => whnf
  refine wl_C fn11 (awake03 w hT) rfl rfl rfl rfl rfl rfl rfl ?_
  rintro _ w1 ⟨rfl, hB1⟩
  refine ⟨_, rfl, run_l tabOk ?_⟩
  conv => whnf
  by_cases hbig : 50 < acts.length
  · (repeat' (first | (refine wl_add rfl rfl rfl rfl rfl rfl (by omega) (by omega) (run_l tabOk ?_); conv => whnf) | (refine wl_sub rfl rfl rfl rfl rfl rfl (by omega) (by omega) (run_l tabOk ?_); conv => whnf) | (refine wl_cvA tabOk rfl rfl rfl (by simp only [inK]; omega) rfl rfl rfl (run_l tabOk ?_); conv => whnf) | (refine wl_cvB tabOk rfl rfl rfl rfl rfl rfl (run_l tabOk ?_); conv => whnf) | (refine wl_rem rfl rfl rfl rfl rfl rfl (by omega) (by omega) (fun r hr hr0 hr1 hr2 => run_l tabOk ?_); conv => whnf) | (refine wl_quo rfl rfl rfl rfl rfl rfl (by omega) (by omega) (by simp only [inK]; omega) (run_l tabOk ?_); conv => whnf) | (refine wl_mul rfl rfl rfl rfl rfl rfl (by omega) (by omega) (run_l tabOk ?_); conv => whnf) | (refine gs_dt (by first | assumption | omega) ?_; conv => whnf) | (refine gs_df (by first | assumption | omega) ?_; conv => whnf) | (refine gs_t (by assumption) ?_; conv => whnf) | (refine gs_f (by assumption) ?_; conv => whnf) | (refine gs_d (fun hg => ?_) (fun hg => ?_) <;> conv => whnf) | (refine gs_n (fun hg => ?_) (fun hg => ?_) <;> conv => whnf) | (refine gs_nb (fun hg => ?_) (fun hg => ?_) <;> conv => whnf) | (refine gs_b (fun hg => ?_) (fun hg => ?_) <;> conv => whnf) | refine fin1 rfl rfl ?_))
    refine wl_C fn11 (awake03 w1 (hT.up hB1)) rfl rfl rfl rfl rfl rfl rfl ?_
    rintro _ w2 ⟨rfl, hB2⟩
    refine ⟨_, rfl, run_l tabOk ?_⟩
    conv => whnf
    (repeat' (first | (refine wl_add rfl rfl rfl rfl rfl rfl (by omega) (by omega) (run_l tabOk ?_); conv => whnf) | (refine wl_sub rfl rfl rfl rfl rfl rfl (by omega) (by omega) (run_l tabOk ?_); conv => whnf) | (refine wl_cvA tabOk rfl rfl rfl (by simp only [inK]; omega) rfl rfl rfl (run_l tabOk ?_); conv => whnf) | (refine wl_cvB tabOk rfl rfl rfl rfl rfl rfl (run_l tabOk ?_); conv => whnf) | (refine wl_rem rfl rfl rfl rfl rfl rfl (by omega) (by omega) (fun r hr hr0 hr1 hr2 => run_l tabOk ?_); conv => whnf) | (refine wl_quo rfl rfl rfl rfl rfl rfl (by omega) (by omega) (by simp only [inK]; omega) (run_l tabOk ?_); conv => whnf) | (refine wl_mul rfl rfl rfl rfl rfl rfl (by omega) (by omega) (run_l tabOk ?_); conv => whnf) | (refine gs_dt (by first | assumption | omega) ?_; conv => whnf) | (refine gs_df (by first | assumption | omega) ?_; conv => whnf) | (refine gs_t (by assumption) ?_; conv => whnf) | (refine gs_f (by assumption) ?_; conv => whnf) | (refine gs_d (fun hg => ?_) (fun hg => ?_) <;> conv => whnf) | (refine gs_n (fun hg => ?_) (fun hg => ?_) <;> conv => whnf) | (refine gs_nb (fun hg => ?_) (fun hg => ?_) <;> conv => whnf) | (refine gs_b (fun hg => ?_) (fun hg => ?_) <;> conv => whnf) | refine fin1 rfl rfl ?_))
    exact ⟨rfl, bup hB1 hB2⟩
  (repeat' (first | (refine wl_add rfl rfl rfl rfl rfl rfl (by omega) (by omega) (run_l tabOk ?_); conv => whnf) | (refine wl_sub rfl rfl rfl rfl rfl rfl (by omega) (by omega) (run_l tabOk ?_); conv => whnf) | (refine wl_cvA tabOk rfl rfl rfl (by simp only [inK]; omega) rfl rfl rfl (run_l tabOk ?_); conv => whnf) | (refine wl_cvB tabOk rfl rfl rfl rfl rfl rfl (run_l tabOk ?_); conv => whnf) | (refine wl_rem rfl rfl rfl rfl rfl rfl (by omega) (by omega) (fun r hr hr0 hr1 hr2 => run_l tabOk ?_); conv => whnf) | (refine wl_quo rfl rfl rfl rfl rfl rfl (by omega) (by omega) (by simp only [inK]; omega) (run_l tabOk ?_); conv => whnf) | (refine wl_mul rfl rfl rfl rfl rfl rfl (by omega) (by omega) (run_l tabOk ?_); conv => whnf) | (refine gs_dt (by first | assumption | omega) ?_; conv => whnf) | (refine gs_df (by first | assumption | omega) ?_; conv => whnf) | (refine gs_t (by assumption) ?_; conv => whnf) | (refine gs_f (by assumption) ?_; conv => whnf) | (refine gs_d (fun hg => ?_) (fun hg => ?_) <;> conv => whnf) | (refine gs_n (fun hg => ?_) (fun hg => ?_) <;> conv => whnf) | (refine gs_nb (fun hg => ?_) (fun hg => ?_) <;> conv => whnf) | (refine gs_b (fun hg => ?_) (fun hg => ?_) <;> conv => whnf) | refine fin1 rfl rfl ?_))
  refine wl_box rfl rfl rfl rfl rfl rfl ?_
  intro gs w2 hn2
  refine run_l tabOk ?_
  conv => whnf
  (repeat' (first | (refine wl_add rfl rfl rfl rfl rfl rfl (by omega) (by omega) (run_l tabOk ?_); conv => whnf) | (refine wl_sub rfl rfl rfl rfl rfl rfl (by omega) (by omega) (run_l tabOk ?_); conv => whnf) | (refine wl_cvA tabOk rfl rfl rfl (by simp only [inK]; omega) rfl rfl rfl (run_l tabOk ?_); conv => whnf) | (refine wl_cvB tabOk rfl rfl rfl rfl rfl rfl (run_l tabOk ?_); conv => whnf) | (refine wl_rem rfl rfl rfl rfl rfl rfl (by omega) (by omega) (fun r hr hr0 hr1 hr2 => run_l tabOk ?_); conv => whnf) | (refine wl_quo rfl rfl rfl rfl rfl rfl (by omega) (by omega) (by simp only [inK]; omega) (run_l tabOk ?_); conv => whnf) | (refine wl_mul rfl rfl rfl rfl rfl rfl (by omega) (by omega) (run_l tabOk ?_); conv => whnf) | (refine gs_dt (by first | assumption | omega) ?_; conv => whnf) | (refine gs_df (by first | assumption | omega) ?_; conv => whnf) | (refine gs_t (by assumption) ?_; conv => whnf) | (refine gs_f (by assumption) ?_; conv => whnf) | (refine gs_d (fun hg => ?_) (fun hg => ?_) <;> conv => whnf) | (refine gs_n (fun hg => ?_) (fun hg => ?_) <;> conv => whnf) | (refine gs_nb (fun hg => ?_) (fun hg => ?_) <;> conv => whnf) | (refine gs_b (fun hg => ?_) (fun hg => ?_) <;> conv => whnf) | refine fin1 rfl rfl ?_))
  refine wl_box rfl rfl rfl rfl rfl rfl ?_
  intro gt w3 hn3
  refine run_l tabOk ?_
  conv => whnf
  (repeat' (first | (refine wl_add rfl rfl rfl rfl rfl rfl (by omega) (by omega) (run_l tabOk ?_); conv => whnf) | (refine wl_sub rfl rfl rfl rfl rfl rfl (by omega) (by omega) (run_l tabOk ?_); conv => whnf) | (refine wl_cvA tabOk rfl rfl rfl (by simp only [inK]; omega) rfl rfl rfl (run_l tabOk ?_); conv => whnf) | (refine wl_cvB tabOk rfl rfl rfl rfl rfl rfl (run_l tabOk ?_); conv => whnf) | (refine wl_rem rfl rfl rfl rfl rfl rfl (by omega) (by omega) (fun r hr hr0 hr1 hr2 => run_l tabOk ?_); conv => whnf) | (refine wl_quo rfl rfl rfl rfl rfl rfl (by omega) (by omega) (by simp only [inK]; omega) (run_l tabOk ?_); conv => whnf) | (refine wl_mul rfl rfl rfl rfl rfl rfl (by omega) (by omega) (run_l tabOk ?_); conv => whnf) | (refine gs_dt (by first | assumption | omega) ?_; conv => whnf) | (refine gs_df (by first | assumption | omega) ?_; conv => whnf) | (refine gs_t (by assumption) ?_; conv => whnf) | (refine gs_f (by assumption) ?_; conv => whnf) | (refine gs_d (fun hg => ?_) (fun hg => ?_) <;> conv => whnf) | (refine gs_n (fun hg => ?_) (fun hg => ?_) <;> conv => whnf) | (refine gs_nb (fun hg => ?_) (fun hg => ?_) <;> conv => whnf) | (refine gs_b (fun hg => ?_) (fun hg => ?_) <;> conv => whnf) | refine fin1 rfl rfl ?_))
  refine wl_mk (m := 400) tabOk 4 1 1 rfl rfl rfl rfl rfl rfl rfl rfl rfl (by omega) (by omega) ?_
  intro ga w4 hn4
  refine run_l tabOk ?_
  conv => whnf
  (repeat' (first | (refine wl_add rfl rfl rfl rfl rfl rfl (by omega) (by omega) (run_l tabOk ?_); conv => whnf) | (refine wl_sub rfl rfl rfl rfl rfl rfl (by omega) (by omega) (run_l tabOk ?_); conv => whnf) | (refine wl_cvA tabOk rfl rfl rfl (by simp only [inK]; omega) rfl rfl rfl (run_l tabOk ?_); conv => whnf) | (refine wl_cvB tabOk rfl rfl rfl rfl rfl rfl (run_l tabOk ?_); conv => whnf) | (refine wl_rem rfl rfl rfl rfl rfl rfl (by omega) (by omega) (fun r hr hr0 hr1 hr2 => run_l tabOk ?_); conv => whnf) | (refine wl_quo rfl rfl rfl rfl rfl rfl (by omega) (by omega) (by simp only [inK]; omega) (run_l tabOk ?_); conv => whnf) | (refine wl_mul rfl rfl rfl rfl rfl rfl (by omega) (by omega) (run_l tabOk ?_); conv => whnf) | (refine gs_dt (by first | assumption | omega) ?_; conv => whnf) | (refine gs_df (by first | assumption | omega) ?_; conv => whnf) | (refine gs_t (by assumption) ?_; conv => whnf) | (refine gs_f (by assumption) ?_; conv => whnf) | (refine gs_d (fun hg => ?_) (fun hg => ?_) <;> conv => whnf) | (refine gs_n (fun hg => ?_) (fun hg => ?_) <;> conv => whnf) | (refine gs_nb (fun hg => ?_) (fun hg => ?_) <;> conv => whnf) | (refine gs_b (fun hg => ?_) (fun hg => ?_) <;> conv => whnf) | refine fin1 rfl rfl ?_))
  refine wl_mk (m := 400) tabOk 4 1 1 rfl rfl rfl rfl rfl rfl rfl rfl rfl (by omega) (by omega) ?_
  intro gb w5 hn5
  refine run_l tabOk ?_
  conv => whnf
  (repeat' (first | (refine wl_add rfl rfl rfl rfl rfl rfl (by omega) (by omega) (run_l tabOk ?_); conv => whnf) | (refine wl_sub rfl rfl rfl rfl rfl rfl (by omega) (by omega) (run_l tabOk ?_); conv => whnf) | (refine wl_cvA tabOk rfl rfl rfl (by simp only [inK]; omega) rfl rfl rfl (run_l tabOk ?_); conv => whnf) | (refine wl_cvB tabOk rfl rfl rfl rfl rfl rfl (run_l tabOk ?_); conv => whnf) | (refine wl_rem rfl rfl rfl rfl rfl rfl (by omega) (by omega) (fun r hr hr0 hr1 hr2 => run_l tabOk ?_); conv => whnf) | (refine wl_quo rfl rfl rfl rfl rfl rfl (by omega) (by omega) (by simp only [inK]; omega) (run_l tabOk ?_); conv => whnf) | (refine wl_mul rfl rfl rfl rfl rfl rfl (by omega) (by omega) (run_l tabOk ?_); conv => whnf) | (refine gs_dt (by first | assumption | omega) ?_; conv => whnf) | (refine gs_df (by first | assumption | omega) ?_; conv => whnf) | (refine gs_t (by assumption) ?_; conv => whnf) | (refine gs_f (by assumption) ?_; conv => whnf) | (refine gs_d (fun hg => ?_) (fun hg => ?_) <;> conv => whnf) | (refine gs_n (fun hg => ?_) (fun hg => ?_) <;> conv => whnf) | (refine gs_nb (fun hg => ?_) (fun hg => ?_) <;> conv => whnf) | (refine gs_b (fun hg => ?_) (fun hg => ?_) <;> conv => whnf) | refine fin1 rfl rfl ?_))
  have hA4 : w4.heap[ga]? = some (.cells (vb (List.replicate 400 false)).toArray 4 (0, 0)) := by rw [← rep_flat]; exact hn4.blk
  have hB5' : w5.heap[gb]? = some (.cells (vb (List.replicate 400 false)).toArray 4 (0, 0)) := by rw [← rep_flat]; exact hn5.blk
  have hS2 : OwnS w1 gs w2 [] [gs] := ⟨pset_new hn2, hn2.below⟩
  have hT3 : OwnS w2 gt w3 [] [gt] := ⟨pset_new hn3, hn3.below⟩
  have dST := apart_new hS2 hT3
  have hB3 := bup hB1 (bup hn2.below hn3.below)
  have z1 := hB1.size
  have z2 := hn2.at_
  have z3 := hn3.at_
  have z4 := hn4.at_
  have z5 := hn5.at_
  have z2' := hn2.size
  have z3' := hn3.size
  have z4' := hn4.size
  have hPP : PP w w5 gs [] [gs] ga (List.replicate 400 false) gt [] [gt] gb (List.replicate 400 false) :=
    ⟨((hS2.up hn3.below).low hB1).up (bup hn4.below hn5.below), (hT3.low (bup hB1 hn2.below)).up (bup hn4.below hn5.below), dST, blk_up hn5.below hA4, hB5', by simp, by simp, by omega, ⟨by simp; omega, by simp; omega⟩, ⟨by simp; omega, by simp; omega⟩, ⟨by omega, by omega⟩, fun n => by rw [memB_nil, lk_rep], fun n => by rw [memB_nil, lk_rep]⟩
  clear hA4 hB5' hS2 hT3 dST z1 z2 z3 z4 z5 z2' z3' z4' hn2 hn3 hn4 hn5
  refine lp_loop tabOk (X := Nat × Nat) (fun z => [(0, .slice A acts.length c), (3, .pointer (some ⟨z.2, 0, none⟩)), (4, .pointer (some ⟨gt, 0, none⟩)), (5, .slice (some ⟨ga, 0, none⟩) 400 400), (6, .slice (some ⟨gb, 0, none⟩) 400 400), (7, .int .i64 z.1)])
    (fun z wr => z.1 ≤ acts.length ∧ ∃ S fs T ft us vs, PP w wr z.2 S fs ga us gt T ft gb vs) (fun z => acts.length - z.1) (0, gs) ⟨rfl, rfl, rfl, rfl, rfl, rfl, trivial⟩ ⟨by simp, _, _, _, _, _, _, hPP⟩ ?_
  clear hPP hB3
  rintro ⟨i, gs⟩ G wr ⟨hi, S, fs, T, ft, us, vs, hP⟩
  simp only at hi hP
  dsimp only
  conv => whnf
  by_cases hil : i < acts.length
  · obtain ⟨ad, rfl, c0, c1, hK, hN1, hN2⟩ := pacts_at (h.up stays_PAct hP.s.below) i hil
    (repeat' (first | (refine wl_L tabOk rfl rfl rfl rfl rfl rfl c0 (run_l tabOk ?_); conv => whnf) | (refine wl_L tabOk rfl rfl rfl rfl rfl rfl c1 (run_l tabOk ?_); conv => whnf) | (refine wl_Xn tabOk 47 2 rfl rfl rfl rfl rfl rfl rfl (by omega) (run_l tabOk ?_); conv => whnf) | (refine wl_add rfl rfl rfl rfl rfl rfl (by omega) (by omega) (run_l tabOk ?_); conv => whnf) | (refine wl_sub rfl rfl rfl rfl rfl rfl (by omega) (by omega) (run_l tabOk ?_); conv => whnf) | (refine wl_cvA tabOk rfl rfl rfl (by simp only [inK]; omega) rfl rfl rfl (run_l tabOk ?_); conv => whnf) | (refine wl_cvB tabOk rfl rfl rfl rfl rfl rfl (run_l tabOk ?_); conv => whnf) | (refine wl_rem rfl rfl rfl rfl rfl rfl (by omega) (by omega) (fun r hr hr0 hr1 hr2 => run_l tabOk ?_); conv => whnf) | (refine wl_quo rfl rfl rfl rfl rfl rfl (by omega) (by omega) (by simp only [inK]; omega) (run_l tabOk ?_); conv => whnf) | (refine wl_mul rfl rfl rfl rfl rfl rfl (by omega) (by omega) (run_l tabOk ?_); conv => whnf) | (refine gs_dt (by first | assumption | omega) ?_; conv => whnf) | (refine gs_df (by first | assumption | omega) ?_; conv => whnf) | (refine gs_t (by assumption) ?_; conv => whnf) | (refine gs_f (by assumption) ?_; conv => whnf) | (refine gs_d (fun hg => ?_) (fun hg => ?_) <;> conv => whnf) | (refine gs_n (fun hg => ?_) (fun hg => ?_) <;> conv => whnf) | (refine gs_nb (fun hg => ?_) (fun hg => ?_) <;> conv => whnf) | (refine gs_b (fun hg => ?_) (fun hg => ?_) <;> conv => whnf) | refine fin1 rfl rfl ?_))
    refine wl_C fn22 (nearC acts[i]!.n wr) rfl rfl rfl rfl rfl rfl rfl ?_
    rintro _ w6 ⟨x, hx, hx4, rfl, hB6⟩
    have hP6 := hP.up hB6
    have c06 := cell_up hB6 c0
    refine ⟨_, rfl, ?_⟩
    refine wl_P tabOk rfl rfl rfl rfl (wl_nil ?_)
    refine run_cutv (X := Nat) (fun z => [(0, .slice (some ad) acts.length c), (3, .pointer (some ⟨z, 0, none⟩)), (4, .pointer (some ⟨gt, 0, none⟩)), (5, .slice (some ⟨ga, 0, none⟩) 400 400), (6, .slice (some ⟨gb, 0, none⟩) 400 400), (7, .int .i64 i)])
      (fun z W => ∃ S fs T ft us vs, PP w W z S fs ga us gt T ft gb vs) ?_ ?_
    · clear hP hP6 c0 c1 c06 hx hx4 hB6 hK hN1 hN2
      rintro gs G wr ⟨S, fs, T, ft, us, vs, hP⟩
      conv => whnf
      have hTw := hT.up hP.s.below
      refine wl_C fn23 (pIs hP.s.set hTw hP.ha hP.la hP.ms) rfl rfl rfl rfl rfl rfl rfl ?_
      rintro _ v1 ⟨rfl, hC1⟩
      have hP := hP.up hC1
      refine ⟨_, rfl, run_l tabOk ?_⟩
      conv => whnf
      (repeat' (first | (refine wl_add rfl rfl rfl rfl rfl rfl (by omega) (by omega) (run_l tabOk ?_); conv => whnf) | (refine wl_sub rfl rfl rfl rfl rfl rfl (by omega) (by omega) (run_l tabOk ?_); conv => whnf) | (refine wl_cvA tabOk rfl rfl rfl (by simp only [inK]; omega) rfl rfl rfl (run_l tabOk ?_); conv => whnf) | (refine wl_cvB tabOk rfl rfl rfl rfl rfl rfl (run_l tabOk ?_); conv => whnf) | (refine wl_rem rfl rfl rfl rfl rfl rfl (by omega) (by omega) (fun r hr hr0 hr1 hr2 => run_l tabOk ?_); conv => whnf) | (refine wl_quo rfl rfl rfl rfl rfl rfl (by omega) (by omega) (by simp only [inK]; omega) (run_l tabOk ?_); conv => whnf) | (refine wl_mul rfl rfl rfl rfl rfl rfl (by omega) (by omega) (run_l tabOk ?_); conv => whnf) | (refine gs_dt (by first | assumption | omega) ?_; conv => whnf) | (refine gs_df (by first | assumption | omega) ?_; conv => whnf) | (refine gs_t (by assumption) ?_; conv => whnf) | (refine gs_f (by assumption) ?_; conv => whnf) | (refine gs_d (fun hg => ?_) (fun hg => ?_) <;> conv => whnf) | (refine gs_n (fun hg => ?_) (fun hg => ?_) <;> conv => whnf) | (refine gs_nb (fun hg => ?_) (fun hg => ?_) <;> conv => whnf) | (refine gs_b (fun hg => ?_) (fun hg => ?_) <;> conv => whnf) | refine fin1 rfl rfl ?_))
      refine wl_C fn23 (pIs hP.t.set (hT.up hP.s.below) hP.hb hP.lb hP.mt) rfl rfl rfl rfl rfl rfl rfl ?_
      rintro _ v2 ⟨rfl, hC2⟩
      have hP := hP.up hC2
      refine ⟨_, rfl, run_l tabOk ?_⟩
      conv => whnf
      (repeat' (first | (refine wl_add rfl rfl rfl rfl rfl rfl (by omega) (by omega) (run_l tabOk ?_); conv => whnf) | (refine wl_sub rfl rfl rfl rfl rfl rfl (by omega) (by omega) (run_l tabOk ?_); conv => whnf) | (refine wl_cvA tabOk rfl rfl rfl (by simp only [inK]; omega) rfl rfl rfl (run_l tabOk ?_); conv => whnf) | (refine wl_cvB tabOk rfl rfl rfl rfl rfl rfl (run_l tabOk ?_); conv => whnf) | (refine wl_rem rfl rfl rfl rfl rfl rfl (by omega) (by omega) (fun r hr hr0 hr1 hr2 => run_l tabOk ?_); conv => whnf) | (refine wl_quo rfl rfl rfl rfl rfl rfl (by omega) (by omega) (by simp only [inK]; omega) (run_l tabOk ?_); conv => whnf) | (refine wl_mul rfl rfl rfl rfl rfl rfl (by omega) (by omega) (run_l tabOk ?_); conv => whnf) | (refine gs_dt (by first | assumption | omega) ?_; conv => whnf) | (refine gs_df (by first | assumption | omega) ?_; conv => whnf) | (refine gs_t (by assumption) ?_; conv => whnf) | (refine gs_f (by assumption) ?_; conv => whnf) | (refine gs_d (fun hg => ?_) (fun hg => ?_) <;> conv => whnf) | (refine gs_n (fun hg => ?_) (fun hg => ?_) <;> conv => whnf) | (refine gs_nb (fun hg => ?_) (fun hg => ?_) <;> conv => whnf) | (refine gs_b (fun hg => ?_) (fun hg => ?_) <;> conv => whnf) | refine fin1 rfl rfl ?_))
      refine wl_mk (m := 400) tabOk 4 1 1 rfl rfl rfl rfl rfl rfl rfl rfl rfl (by omega) (by omega) ?_
      intro gl v3 hn3
      have hgl0 := hn3.at_
      have hgl : gl ∉ fs ∧ gl ∉ ft ∧ gl ≠ ga ∧ gl ≠ gb ∧ w.heap.size ≤ gl := ⟨fun hm => by have := hP.s.near gl hm; omega, fun hm => by have := hP.t.near gl hm; omega, by have := blk_lt hP.ha; omega, by have := blk_lt hP.hb; omega, by have := hP.s.below.size; omega⟩
      have hP := hP.up hn3.below
      have hL3 : v3.heap[gl]? = some (.cells (vb (rowK (fun j => us[j]! && !vs[j]!) (fun _ => false) 0)).toArray 4 (0, 0)) := by rw [rowK_rep, ← rep_flat]; exact hn3.blk
      clear hn3 hgl0
      refine run_l tabOk ?_
      conv => whnf
      (repeat' (first | (refine wl_add rfl rfl rfl rfl rfl rfl (by omega) (by omega) (run_l tabOk ?_); conv => whnf) | (refine wl_sub rfl rfl rfl rfl rfl rfl (by omega) (by omega) (run_l tabOk ?_); conv => whnf) | (refine wl_cvA tabOk rfl rfl rfl (by simp only [inK]; omega) rfl rfl rfl (run_l tabOk ?_); conv => whnf) | (refine wl_cvB tabOk rfl rfl rfl rfl rfl rfl (run_l tabOk ?_); conv => whnf) | (refine wl_rem rfl rfl rfl rfl rfl rfl (by omega) (by omega) (fun r hr hr0 hr1 hr2 => run_l tabOk ?_); conv => whnf) | (refine wl_quo rfl rfl rfl rfl rfl rfl (by omega) (by omega) (by simp only [inK]; omega) (run_l tabOk ?_); conv => whnf) | (refine wl_mul rfl rfl rfl rfl rfl rfl (by omega) (by omega) (run_l tabOk ?_); conv => whnf) | (refine gs_dt (by first | assumption | omega) ?_; conv => whnf) | (refine gs_df (by first | assumption | omega) ?_; conv => whnf) | (refine gs_t (by assumption) ?_; conv => whnf) | (refine gs_f (by assumption) ?_; conv => whnf) | (refine gs_d (fun hg => ?_) (fun hg => ?_) <;> conv => whnf) | (refine gs_n (fun hg => ?_) (fun hg => ?_) <;> conv => whnf) | (refine gs_nb (fun hg => ?_) (fun hg => ?_) <;> conv => whnf) | (refine gs_b (fun hg => ?_) (fun hg => ?_) <;> conv => whnf) | refine fin1 rfl rfl ?_))
      refine lp_loop tabOk (X := Nat) (fun k => [(0, .slice (some ad) acts.length c), (3, .pointer (some ⟨gs, 0, none⟩)), (4, .pointer (some ⟨gt, 0, none⟩)), (5, .slice (some ⟨ga, 0, none⟩) 400 400), (6, .slice (some ⟨gb, 0, none⟩) 400 400), (7, .int .i64 i), (15, .bool (allK us vs k)), (16, .slice (some ⟨gl, 0, none⟩) 400 400), (17, .int .i64 k)])
        (fun k wk => k ≤ 400 ∧ PP w wk gs S fs ga us gt T ft gb vs ∧ wk.heap[gl]? = some (.cells (vb (rowK (fun j => us[j]! && !vs[j]!) (fun _ => false) k)).toArray 4 (0, 0))) (fun k => 400 - k) 0 ⟨rfl, rfl, rfl, rfl, rfl, rfl, rfl, rfl, rfl, trivial⟩ ⟨by omega, hP, hL3⟩ ?_
      clear hP hL3 hTw
      intro k G2 wk ⟨hk4, hP, hrow⟩
      conv => whnf
      by_cases hkl : k < 400
      · have cu := vb_get hP.ha k (by rw [hP.la]; exact hkl)
        have cv := vb_get hP.hb k (by rw [hP.lb]; exact hkl)
        have hnx := allK_next us vs k
        have hrn : (rowK (fun j => us[j]! && !vs[j]!) (fun _ => false) k).set k (us[k]! && !vs[k]!) = _ := rowK_next (fun j => us[j]! && !vs[j]!) (fun _ => false) hkl
        generalize hmv : allK us vs k = mv at hnx
        generalize hxv : us[k]! = xv at cu hnx hrn
        generalize hyv : vs[k]! = yv at cv hnx hrn
        have hlen : (vb (rowK (fun j => us[j]! && !vs[j]!) (fun _ => false) k)).length = 400 := by simp [vb, rowK_len]
        cases mv <;> cases xv <;> cases yv
        all_goals
          (repeat' (first | (refine wl_add rfl rfl rfl rfl rfl rfl (by omega) (by omega) (run_l tabOk ?_); conv => whnf) | (refine wl_sub rfl rfl rfl rfl rfl rfl (by omega) (by omega) (run_l tabOk ?_); conv => whnf) | (refine wl_cvA tabOk rfl rfl rfl (by simp only [inK]; omega) rfl rfl rfl (run_l tabOk ?_); conv => whnf) | (refine wl_cvB tabOk rfl rfl rfl rfl rfl rfl (run_l tabOk ?_); conv => whnf) | (refine wl_rem rfl rfl rfl rfl rfl rfl (by omega) (by omega) (fun r hr hr0 hr1 hr2 => run_l tabOk ?_); conv => whnf) | (refine wl_quo rfl rfl rfl rfl rfl rfl (by omega) (by omega) (by simp only [inK]; omega) (run_l tabOk ?_); conv => whnf) | (refine wl_mul rfl rfl rfl rfl rfl rfl (by omega) (by omega) (run_l tabOk ?_); conv => whnf) | (refine gs_dt (by first | assumption | omega) ?_; conv => whnf) | (refine gs_df (by first | assumption | omega) ?_; conv => whnf) | (refine gs_t (by assumption) ?_; conv => whnf) | (refine gs_f (by assumption) ?_; conv => whnf) | (refine gs_d (fun hg => ?_) (fun hg => ?_) <;> conv => whnf) | (refine gs_n (fun hg => ?_) (fun hg => ?_) <;> conv => whnf) | (refine gs_nb (fun hg => ?_) (fun hg => ?_) <;> conv => whnf) | (refine gs_b (fun hg => ?_) (fun hg => ?_) <;> conv => whnf) | refine fin1 rfl rfl ?_))
          refine wc_qr tabOk mixed (by kernel_rfl) ?_; (conv => whnf)
          (repeat' (first | (refine wq_L tabOk rfl rfl rfl rfl rfl rfl cu (run_q tabOk ?_); conv => whnf) | (refine wq_L tabOk rfl rfl rfl rfl rfl rfl cv (run_q tabOk ?_); conv => whnf) | (refine wq_Xn tabOk 4 1 rfl rfl rfl rfl rfl rfl rfl (by omega) (run_q tabOk ?_); conv => whnf) | (refine wq_add rfl rfl rfl rfl rfl rfl (by omega) (by omega) (run_q tabOk ?_); conv => whnf) | (refine wq_sub rfl rfl rfl rfl rfl rfl (by omega) (by omega) (run_q tabOk ?_); conv => whnf) | (refine wq_cvA tabOk rfl rfl rfl (by simp only [inK]; omega) rfl rfl rfl (run_q tabOk ?_); conv => whnf) | (refine wq_cvB tabOk rfl rfl rfl rfl rfl rfl (run_q tabOk ?_); conv => whnf) | (refine wq_rem rfl rfl rfl rfl rfl rfl (by omega) (by omega) (fun r hr hr0 hr1 hr2 => run_q tabOk ?_); conv => whnf) | (refine wq_quo rfl rfl rfl rfl rfl rfl (by omega) (by omega) (by simp only [inK]; omega) (run_q tabOk ?_); conv => whnf) | (refine wq_mul rfl rfl rfl rfl rfl rfl (by omega) (by omega) (run_q tabOk ?_); conv => whnf) | (refine gs_dt (by first | assumption | omega) ?_; conv => whnf) | (refine gs_df (by first | assumption | omega) ?_; conv => whnf) | (refine gs_t (by assumption) ?_; conv => whnf) | (refine gs_f (by assumption) ?_; conv => whnf) | (refine gs_d (fun hg => ?_) (fun hg => ?_) <;> conv => whnf) | (refine gs_n (fun hg => ?_) (fun hg => ?_) <;> conv => whnf) | (refine gs_nb (fun hg => ?_) (fun hg => ?_) <;> conv => whnf) | (refine gs_b (fun hg => ?_) (fun hg => ?_) <;> conv => whnf)))
          intro W2 hB2
          conv => whnf
          have cu2 := cell_up hB2 cu
          have cv2 := cell_up hB2 cv
          (repeat' (first | (refine wl_L tabOk rfl rfl rfl rfl rfl rfl cu2 (run_l tabOk ?_); conv => whnf) | (refine wl_L tabOk rfl rfl rfl rfl rfl rfl cv2 (run_l tabOk ?_); conv => whnf) | (refine wl_Xn tabOk 4 1 rfl rfl rfl rfl rfl rfl rfl (by omega) (run_l tabOk ?_); conv => whnf) | (refine wl_add rfl rfl rfl rfl rfl rfl (by omega) (by omega) (run_l tabOk ?_); conv => whnf) | (refine wl_sub rfl rfl rfl rfl rfl rfl (by omega) (by omega) (run_l tabOk ?_); conv => whnf) | (refine wl_cvA tabOk rfl rfl rfl (by simp only [inK]; omega) rfl rfl rfl (run_l tabOk ?_); conv => whnf) | (refine wl_cvB tabOk rfl rfl rfl rfl rfl rfl (run_l tabOk ?_); conv => whnf) | (refine wl_rem rfl rfl rfl rfl rfl rfl (by omega) (by omega) (fun r hr hr0 hr1 hr2 => run_l tabOk ?_); conv => whnf) | (refine wl_quo rfl rfl rfl rfl rfl rfl (by omega) (by omega) (by simp only [inK]; omega) (run_l tabOk ?_); conv => whnf) | (refine wl_mul rfl rfl rfl rfl rfl rfl (by omega) (by omega) (run_l tabOk ?_); conv => whnf) | (refine gs_dt (by first | assumption | omega) ?_; conv => whnf) | (refine gs_df (by first | assumption | omega) ?_; conv => whnf) | (refine gs_t (by assumption) ?_; conv => whnf) | (refine gs_f (by assumption) ?_; conv => whnf) | (refine gs_d (fun hg => ?_) (fun hg => ?_) <;> conv => whnf) | (refine gs_n (fun hg => ?_) (fun hg => ?_) <;> conv => whnf) | (refine gs_nb (fun hg => ?_) (fun hg => ?_) <;> conv => whnf) | (refine gs_b (fun hg => ?_) (fun hg => ?_) <;> conv => whnf) | refine fin1 rfl rfl ?_))
          refine wl_Se tabOk (blk_up hB2 hrow) rfl rfl rfl rfl rfl rfl (by rw [hlen]; omega) rfl rfl ?_
          intro W3 hp3
          have hp3b : W3.heap[gl]? = some (.cells (vb (rowK (fun j => us[j]! && !vs[j]!) (fun _ => false) (k + 1))).toArray 4 (0, 0)) := by rw [← hrn]; exact (put_vb hp3 rfl).blk
          refine run_l tabOk ?_
          conv => whnf
          (repeat' (first | (refine wl_add rfl rfl rfl rfl rfl rfl (by omega) (by omega) (run_l tabOk ?_); conv => whnf) | (refine wl_sub rfl rfl rfl rfl rfl rfl (by omega) (by omega) (run_l tabOk ?_); conv => whnf) | (refine wl_cvA tabOk rfl rfl rfl (by simp only [inK]; omega) rfl rfl rfl (run_l tabOk ?_); conv => whnf) | (refine wl_cvB tabOk rfl rfl rfl rfl rfl rfl (run_l tabOk ?_); conv => whnf) | (refine wl_rem rfl rfl rfl rfl rfl rfl (by omega) (by omega) (fun r hr hr0 hr1 hr2 => run_l tabOk ?_); conv => whnf) | (refine wl_quo rfl rfl rfl rfl rfl rfl (by omega) (by omega) (by simp only [inK]; omega) (run_l tabOk ?_); conv => whnf) | (refine wl_mul rfl rfl rfl rfl rfl rfl (by omega) (by omega) (run_l tabOk ?_); conv => whnf) | (refine gs_dt (by first | assumption | omega) ?_; conv => whnf) | (refine gs_df (by first | assumption | omega) ?_; conv => whnf) | (refine gs_t (by assumption) ?_; conv => whnf) | (refine gs_f (by assumption) ?_; conv => whnf) | (refine gs_d (fun hg => ?_) (fun hg => ?_) <;> conv => whnf) | (refine gs_n (fun hg => ?_) (fun hg => ?_) <;> conv => whnf) | (refine gs_nb (fun hg => ?_) (fun hg => ?_) <;> conv => whnf) | (refine gs_b (fun hg => ?_) (fun hg => ?_) <;> conv => whnf) | refine fin1 rfl rfl ?_))
          refine ⟨k + 1, ⟨rfl, rfl, rfl, rfl, rfl, rfl, ?_, rfl, rfl, trivial⟩, ⟨by omega, (hP.up hB2).other hp3 hgl, hp3b⟩, by omega⟩
          show Value.bool _ = Value.bool _
          rw [hnx]
          rfl
      · obtain rfl : k = 400 := by omega
        have hall : allK us vs 400 = decide (S = T) := allK_all hP.la hP.lb hP.ms hP.mt hP.s.set.wf hP.t.set.wf
        rw [hall]
        (repeat' (first | (refine wl_add rfl rfl rfl rfl rfl rfl (by omega) (by omega) (run_l tabOk ?_); conv => whnf) | (refine wl_sub rfl rfl rfl rfl rfl rfl (by omega) (by omega) (run_l tabOk ?_); conv => whnf) | (refine wl_cvA tabOk rfl rfl rfl (by simp only [inK]; omega) rfl rfl rfl (run_l tabOk ?_); conv => whnf) | (refine wl_cvB tabOk rfl rfl rfl rfl rfl rfl (run_l tabOk ?_); conv => whnf) | (refine wl_rem rfl rfl rfl rfl rfl rfl (by omega) (by omega) (fun r hr hr0 hr1 hr2 => run_l tabOk ?_); conv => whnf) | (refine wl_quo rfl rfl rfl rfl rfl rfl (by omega) (by omega) (by simp only [inK]; omega) (run_l tabOk ?_); conv => whnf) | (refine wl_mul rfl rfl rfl rfl rfl rfl (by omega) (by omega) (run_l tabOk ?_); conv => whnf) | (refine gs_dt (by first | assumption | omega) ?_; conv => whnf) | (refine gs_df (by first | assumption | omega) ?_; conv => whnf) | (refine gs_t (by assumption) ?_; conv => whnf) | (refine gs_f (by assumption) ?_; conv => whnf) | (refine gs_d (fun hg => ?_) (fun hg => ?_) <;> conv => whnf) | (refine gs_n (fun hg => ?_) (fun hg => ?_) <;> conv => whnf) | (refine gs_nb (fun hg => ?_) (fun hg => ?_) <;> conv => whnf) | (refine gs_b (fun hg => ?_) (fun hg => ?_) <;> conv => whnf) | refine fin1 rfl rfl ?_))
        have hbe : (decide (S = T) == decide (S = T)) = true := by simp
        have hf1 := hP.few1
        have hf2 := hP.few2
        refine wl_C fn14 (pSame hP.s.set hP.t.set) rfl rfl rfl rfl rfl rfl rfl ?_
        rintro _ u1 ⟨rfl, hD1⟩
        have hP1 := hP.up hD1
        refine ⟨_, rfl, run_l tabOk ?_⟩
        conv => whnf
        rw [hbe]
        conv => whnf
        (repeat' (first | (refine wl_add rfl rfl rfl rfl rfl rfl (by omega) (by omega) (run_l tabOk ?_); conv => whnf) | (refine wl_sub rfl rfl rfl rfl rfl rfl (by omega) (by omega) (run_l tabOk ?_); conv => whnf) | (refine wl_cvA tabOk rfl rfl rfl (by simp only [inK]; omega) rfl rfl rfl (run_l tabOk ?_); conv => whnf) | (refine wl_cvB tabOk rfl rfl rfl rfl rfl rfl (run_l tabOk ?_); conv => whnf) | (refine wl_rem rfl rfl rfl rfl rfl rfl (by omega) (by omega) (fun r hr hr0 hr1 hr2 => run_l tabOk ?_); conv => whnf) | (refine wl_quo rfl rfl rfl rfl rfl rfl (by omega) (by omega) (by simp only [inK]; omega) (run_l tabOk ?_); conv => whnf) | (refine wl_mul rfl rfl rfl rfl rfl rfl (by omega) (by omega) (run_l tabOk ?_); conv => whnf) | (refine gs_dt (by first | assumption | omega) ?_; conv => whnf) | (refine gs_df (by first | assumption | omega) ?_; conv => whnf) | (refine gs_t (by assumption) ?_; conv => whnf) | (refine gs_f (by assumption) ?_; conv => whnf) | (refine gs_d (fun hg => ?_) (fun hg => ?_) <;> conv => whnf) | (refine gs_n (fun hg => ?_) (fun hg => ?_) <;> conv => whnf) | (refine gs_nb (fun hg => ?_) (fun hg => ?_) <;> conv => whnf) | (refine gs_b (fun hg => ?_) (fun hg => ?_) <;> conv => whnf) | refine fin1 rfl rfl ?_))
        refine wl_C fn13 (pKey hP1.s.set (by omega)) rfl rfl rfl rfl rfl rfl rfl ?_
        rintro _ u2 ⟨rfl, hD2⟩
        have hP2 := hP1.up hD2
        refine ⟨_, rfl, run_l tabOk ?_⟩
        conv => whnf
        (repeat' (first | (refine wl_add rfl rfl rfl rfl rfl rfl (by omega) (by omega) (run_l tabOk ?_); conv => whnf) | (refine wl_sub rfl rfl rfl rfl rfl rfl (by omega) (by omega) (run_l tabOk ?_); conv => whnf) | (refine wl_cvA tabOk rfl rfl rfl (by simp only [inK]; omega) rfl rfl rfl (run_l tabOk ?_); conv => whnf) | (refine wl_cvB tabOk rfl rfl rfl rfl rfl rfl (run_l tabOk ?_); conv => whnf) | (refine wl_rem rfl rfl rfl rfl rfl rfl (by omega) (by omega) (fun r hr hr0 hr1 hr2 => run_l tabOk ?_); conv => whnf) | (refine wl_quo rfl rfl rfl rfl rfl rfl (by omega) (by omega) (by simp only [inK]; omega) (run_l tabOk ?_); conv => whnf) | (refine wl_mul rfl rfl rfl rfl rfl rfl (by omega) (by omega) (run_l tabOk ?_); conv => whnf) | (refine gs_dt (by first | assumption | omega) ?_; conv => whnf) | (refine gs_df (by first | assumption | omega) ?_; conv => whnf) | (refine gs_t (by assumption) ?_; conv => whnf) | (refine gs_f (by assumption) ?_; conv => whnf) | (refine gs_d (fun hg => ?_) (fun hg => ?_) <;> conv => whnf) | (refine gs_n (fun hg => ?_) (fun hg => ?_) <;> conv => whnf) | (refine gs_nb (fun hg => ?_) (fun hg => ?_) <;> conv => whnf) | (refine gs_b (fun hg => ?_) (fun hg => ?_) <;> conv => whnf) | refine fin1 rfl rfl ?_))
        refine wl_C fn13 (pKey hP2.t.set (by omega)) rfl rfl rfl rfl rfl rfl rfl ?_
        rintro _ u3 ⟨rfl, hD3⟩
        have hP3 := hP2.up hD3
        refine ⟨_, rfl, run_l tabOk ?_⟩
        conv => whnf
        refine wl_seq (r := decide (S = T)) (keyS_eq hP.s.set.wf hP.t.set.wf (fun b hb => by have := hf1.2 b hb; omega) (fun b hb => by have := hf2.2 b hb; omega)) rfl rfl rfl rfl rfl rfl (run_l tabOk ?_); conv => whnf
        rw [hbe]
        conv => whnf
        (repeat' (first | (refine wl_add rfl rfl rfl rfl rfl rfl (by omega) (by omega) (run_l tabOk ?_); conv => whnf) | (refine wl_sub rfl rfl rfl rfl rfl rfl (by omega) (by omega) (run_l tabOk ?_); conv => whnf) | (refine wl_cvA tabOk rfl rfl rfl (by simp only [inK]; omega) rfl rfl rfl (run_l tabOk ?_); conv => whnf) | (refine wl_cvB tabOk rfl rfl rfl rfl rfl rfl (run_l tabOk ?_); conv => whnf) | (refine wl_rem rfl rfl rfl rfl rfl rfl (by omega) (by omega) (fun r hr hr0 hr1 hr2 => run_l tabOk ?_); conv => whnf) | (refine wl_quo rfl rfl rfl rfl rfl rfl (by omega) (by omega) (by simp only [inK]; omega) (run_l tabOk ?_); conv => whnf) | (refine wl_mul rfl rfl rfl rfl rfl rfl (by omega) (by omega) (run_l tabOk ?_); conv => whnf) | (refine gs_dt (by first | assumption | omega) ?_; conv => whnf) | (refine gs_df (by first | assumption | omega) ?_; conv => whnf) | (refine gs_t (by assumption) ?_; conv => whnf) | (refine gs_f (by assumption) ?_; conv => whnf) | (refine gs_d (fun hg => ?_) (fun hg => ?_) <;> conv => whnf) | (refine gs_n (fun hg => ?_) (fun hg => ?_) <;> conv => whnf) | (refine gs_nb (fun hg => ?_) (fun hg => ?_) <;> conv => whnf) | (refine gs_b (fun hg => ?_) (fun hg => ?_) <;> conv => whnf) | refine fin1 rfl rfl ?_))
        refine wl_C fn21 (pLess hP3.s.set hP3.t.set (by omega) (by omega)) rfl rfl rfl rfl rfl rfl rfl ?_
        rintro _ u4 ⟨g5, L, f5, r⟩
        have hP4 := hP3.up r.own.below
        refine ⟨_, r.ret, run_l tabOk ?_⟩
        conv => whnf
        (repeat' (first | (refine wl_add rfl rfl rfl rfl rfl rfl (by omega) (by omega) (run_l tabOk ?_); conv => whnf) | (refine wl_sub rfl rfl rfl rfl rfl rfl (by omega) (by omega) (run_l tabOk ?_); conv => whnf) | (refine wl_cvA tabOk rfl rfl rfl (by simp only [inK]; omega) rfl rfl rfl (run_l tabOk ?_); conv => whnf) | (refine wl_cvB tabOk rfl rfl rfl rfl rfl rfl (run_l tabOk ?_); conv => whnf) | (refine wl_rem rfl rfl rfl rfl rfl rfl (by omega) (by omega) (fun r hr hr0 hr1 hr2 => run_l tabOk ?_); conv => whnf) | (refine wl_quo rfl rfl rfl rfl rfl rfl (by omega) (by omega) (by simp only [inK]; omega) (run_l tabOk ?_); conv => whnf) | (refine wl_mul rfl rfl rfl rfl rfl rfl (by omega) (by omega) (run_l tabOk ?_); conv => whnf) | (refine gs_dt (by first | assumption | omega) ?_; conv => whnf) | (refine gs_df (by first | assumption | omega) ?_; conv => whnf) | (refine gs_t (by assumption) ?_; conv => whnf) | (refine gs_f (by assumption) ?_; conv => whnf) | (refine gs_d (fun hg => ?_) (fun hg => ?_) <;> conv => whnf) | (refine gs_n (fun hg => ?_) (fun hg => ?_) <;> conv => whnf) | (refine gs_nb (fun hg => ?_) (fun hg => ?_) <;> conv => whnf) | (refine gs_b (fun hg => ?_) (fun hg => ?_) <;> conv => whnf) | refine fin1 rfl rfl ?_))
        have hD := bup (bup (bup hD1 hD2) hD3) r.own.below
        refine wl_C fn23 (pIs r.own.set (hT.up hP4.s.below) (blk_up hD hrow) (rowK_len _ _ _) (fun n => by
          rw [r.mem, hP.ms, hP.mt, lk_rowK, lk_dec hP.la, lk_dec hP.lb]
          cases decide (n < 400) <;> simp)) rfl rfl rfl rfl rfl rfl rfl ?_
        rintro _ u5 ⟨rfl, hD5⟩
        have hP5 := hP4.up hD5
        refine ⟨_, rfl, run_l tabOk ?_⟩
        conv => whnf
        (repeat' (first | (refine wl_add rfl rfl rfl rfl rfl rfl (by omega) (by omega) (run_l tabOk ?_); conv => whnf) | (refine wl_sub rfl rfl rfl rfl rfl rfl (by omega) (by omega) (run_l tabOk ?_); conv => whnf) | (refine wl_cvA tabOk rfl rfl rfl (by simp only [inK]; omega) rfl rfl rfl (run_l tabOk ?_); conv => whnf) | (refine wl_cvB tabOk rfl rfl rfl rfl rfl rfl (run_l tabOk ?_); conv => whnf) | (refine wl_rem rfl rfl rfl rfl rfl rfl (by omega) (by omega) (fun r hr hr0 hr1 hr2 => run_l tabOk ?_); conv => whnf) | (refine wl_quo rfl rfl rfl rfl rfl rfl (by omega) (by omega) (by simp only [inK]; omega) (run_l tabOk ?_); conv => whnf) | (refine wl_mul rfl rfl rfl rfl rfl rfl (by omega) (by omega) (run_l tabOk ?_); conv => whnf) | (refine gs_dt (by first | assumption | omega) ?_; conv => whnf) | (refine gs_df (by first | assumption | omega) ?_; conv => whnf) | (refine gs_t (by assumption) ?_; conv => whnf) | (refine gs_f (by assumption) ?_; conv => whnf) | (refine gs_d (fun hg => ?_) (fun hg => ?_) <;> conv => whnf) | (refine gs_n (fun hg => ?_) (fun hg => ?_) <;> conv => whnf) | (refine gs_nb (fun hg => ?_) (fun hg => ?_) <;> conv => whnf) | (refine gs_b (fun hg => ?_) (fun hg => ?_) <;> conv => whnf) | refine fin1 rfl rfl ?_))
        exact ⟨(i + 1, gs), ⟨rfl, rfl, rfl, rfl, rfl, rfl, trivial⟩, ⟨by simp only; omega, _, _, _, _, _, _, hP5⟩, by simp only; omega⟩
    · intro yv hk
      conv => whnf
      (repeat' (first | (refine wl_L tabOk rfl rfl rfl rfl rfl rfl c06 (run_l tabOk ?_); conv => whnf) | (refine wl_Xn tabOk 47 2 rfl rfl rfl rfl rfl rfl rfl (by omega) (run_l tabOk ?_); conv => whnf) | (refine wl_add rfl rfl rfl rfl rfl rfl (by omega) (by omega) (run_l tabOk ?_); conv => whnf) | (refine wl_sub rfl rfl rfl rfl rfl rfl (by omega) (by omega) (run_l tabOk ?_); conv => whnf) | (refine wl_cvA tabOk rfl rfl rfl (by simp only [inK]; omega) rfl rfl rfl (run_l tabOk ?_); conv => whnf) | (refine wl_cvB tabOk rfl rfl rfl rfl rfl rfl (run_l tabOk ?_); conv => whnf) | (refine wl_rem rfl rfl rfl rfl rfl rfl (by omega) (by omega) (fun r hr hr0 hr1 hr2 => run_l tabOk ?_); conv => whnf) | (refine wl_quo rfl rfl rfl rfl rfl rfl (by omega) (by omega) (by simp only [inK]; omega) (run_l tabOk ?_); conv => whnf) | (refine wl_mul rfl rfl rfl rfl rfl rfl (by omega) (by omega) (run_l tabOk ?_); conv => whnf) | (refine gs_dt (by first | assumption | omega) ?_; conv => whnf) | (refine gs_df (by first | assumption | omega) ?_; conv => whnf) | (refine gs_t (by assumption) ?_; conv => whnf) | (refine gs_f (by assumption) ?_; conv => whnf) | (refine gs_d (fun hg => ?_) (fun hg => ?_) <;> conv => whnf) | (refine gs_n (fun hg => ?_) (fun hg => ?_) <;> conv => whnf) | (refine gs_nb (fun hg => ?_) (fun hg => ?_) <;> conv => whnf) | (refine gs_b (fun hg => ?_) (fun hg => ?_) <;> conv => whnf) | refine fin1 rfl rfl ?_))
      · have hQ := hP6.swap
        have kc : ∀ w', Kept ft w6 w' → w'.cell? ((⟨gb, 0, none⟩ : Addr).add (x * 1)) = some (.bool vs[x]!) := fun w' hk' => vb_get (hk'.blk hQ.ha hQ.na.1) x (by rw [hQ.la]; exact hx4)
        refine wc_qx [0, 1, 3, 4, 5, 6] 1 7 (stable_Kw w6 ft) tabOk mixed (by kernel_rfl) (Kept.refl _ _) ?_
        conv => whnf
        (repeat' (first | (refine wq_LC tabOk kc rfl rfl rfl rfl rfl rfl (run_q tabOk ?_); conv => whnf) | (refine wq_Xn tabOk 4 1 rfl rfl rfl rfl rfl rfl rfl (by omega) (run_q tabOk ?_); conv => whnf) | (refine wq_add rfl rfl rfl rfl rfl rfl (by omega) (by omega) (run_q tabOk ?_); conv => whnf) | (refine wq_sub rfl rfl rfl rfl rfl rfl (by omega) (by omega) (run_q tabOk ?_); conv => whnf) | (refine wq_cvA tabOk rfl rfl rfl (by simp only [inK]; omega) rfl rfl rfl (run_q tabOk ?_); conv => whnf) | (refine wq_cvB tabOk rfl rfl rfl rfl rfl rfl (run_q tabOk ?_); conv => whnf) | (refine wq_rem rfl rfl rfl rfl rfl rfl (by omega) (by omega) (fun r hr hr0 hr1 hr2 => run_q tabOk ?_); conv => whnf) | (refine wq_quo rfl rfl rfl rfl rfl rfl (by omega) (by omega) (by simp only [inK]; omega) (run_q tabOk ?_); conv => whnf) | (refine wq_mul rfl rfl rfl rfl rfl rfl (by omega) (by omega) (run_q tabOk ?_); conv => whnf) | (refine gs_dt (by first | assumption | omega) ?_; conv => whnf) | (refine gs_df (by first | assumption | omega) ?_; conv => whnf) | (refine gs_t (by assumption) ?_; conv => whnf) | (refine gs_f (by assumption) ?_; conv => whnf) | (refine gs_d (fun hg => ?_) (fun hg => ?_) <;> conv => whnf) | (refine gs_n (fun hg => ?_) (fun hg => ?_) <;> conv => whnf) | (refine gs_nb (fun hg => ?_) (fun hg => ?_) <;> conv => whnf) | (refine gs_b (fun hg => ?_) (fun hg => ?_) <;> conv => whnf)))
        intro W hC hBW
        conv => whnf
        refine And.intro ?_ trivial
        conv => whnf
        have hQW := hQ.up hBW
        refine wb_C fn12 (pAdd hQW.s.set x (by omega) (by have := hQW.few1.1; omega) hQW.s.below.size) rfl rfl rfl rfl rfl rfl ?_
        rintro _ W1 ⟨S', f', r⟩
        have hret := r.ret
        rw [decide_eq_true (by omega : (0 : Int) ≤ (x : Int)), Bool.true_and, Int.toNat_natCast, hQ.ms, lk_get (by rw [hQ.la]; exact hx4)] at hret
        refine ⟨_, hret, (Kept.of hBW).trans r.kept (fun b hb => .inl hb), fun W2 hB2 hC2 => ?_⟩
        conv => whnf
        have hbe : ((!vs[x]!) == vs[x]!) = false := by cases vs[x]! <;> rfl
        rw [hbe]
        conv => whnf
        (repeat' (first | (refine wl_Xn tabOk 4 1 rfl rfl rfl rfl rfl rfl rfl (by omega) (run_l tabOk ?_); conv => whnf) | (refine wl_add rfl rfl rfl rfl rfl rfl (by omega) (by omega) (run_l tabOk ?_); conv => whnf) | (refine wl_sub rfl rfl rfl rfl rfl rfl (by omega) (by omega) (run_l tabOk ?_); conv => whnf) | (refine wl_cvA tabOk rfl rfl rfl (by simp only [inK]; omega) rfl rfl rfl (run_l tabOk ?_); conv => whnf) | (refine wl_cvB tabOk rfl rfl rfl rfl rfl rfl (run_l tabOk ?_); conv => whnf) | (refine wl_rem rfl rfl rfl rfl rfl rfl (by omega) (by omega) (fun r hr hr0 hr1 hr2 => run_l tabOk ?_); conv => whnf) | (refine wl_quo rfl rfl rfl rfl rfl rfl (by omega) (by omega) (by simp only [inK]; omega) (run_l tabOk ?_); conv => whnf) | (refine wl_mul rfl rfl rfl rfl rfl rfl (by omega) (by omega) (run_l tabOk ?_); conv => whnf) | (refine gs_dt (by first | assumption | omega) ?_; conv => whnf) | (refine gs_df (by first | assumption | omega) ?_; conv => whnf) | (refine gs_t (by assumption) ?_; conv => whnf) | (refine gs_f (by assumption) ?_; conv => whnf) | (refine gs_d (fun hg => ?_) (fun hg => ?_) <;> conv => whnf) | (refine gs_n (fun hg => ?_) (fun hg => ?_) <;> conv => whnf) | (refine gs_nb (fun hg => ?_) (fun hg => ?_) <;> conv => whnf) | (refine gs_b (fun hg => ?_) (fun hg => ?_) <;> conv => whnf) | refine fin1 rfl rfl ?_))
        have hrow := blk_up hB2 (r.kept.blk hQW.ha hQ.na.1)
        refine wl_Se tabOk hrow rfl rfl rfl rfl rfl rfl (by rw [show (vb vs).length = vs.length by simp [vb], hQ.la]; omega) rfl rfl ?_
        intro W3 hp3
        have hp3 := put_vb hp3 (b := true) rfl
        have hfin := hQW.add (r.up hB2) hp3 hx4
        refine run_l tabOk ?_
        conv => whnf
        exact hk gs _ _ ⟨rfl, rfl, rfl, rfl, rfl, rfl, trivial⟩ ⟨_, _, _, _, _, _, hfin.swap⟩
      · have hQ := hP6.swap
        have kc : ∀ w', Kept ft w6 w' → w'.cell? ((⟨gb, 0, none⟩ : Addr).add (x * 1)) = some (.bool vs[x]!) := fun w' hk' => vb_get (hk'.blk hQ.ha hQ.na.1) x (by rw [hQ.la]; exact hx4)
        refine wc_qx [0, 1, 3, 4, 5, 6] 1 7 (stable_Kw w6 ft) tabOk mixed (by kernel_rfl) (Kept.refl _ _) ?_
        conv => whnf
        (repeat' (first | (refine wq_LC tabOk kc rfl rfl rfl rfl rfl rfl (run_q tabOk ?_); conv => whnf) | (refine wq_Xn tabOk 4 1 rfl rfl rfl rfl rfl rfl rfl (by omega) (run_q tabOk ?_); conv => whnf) | (refine wq_add rfl rfl rfl rfl rfl rfl (by omega) (by omega) (run_q tabOk ?_); conv => whnf) | (refine wq_sub rfl rfl rfl rfl rfl rfl (by omega) (by omega) (run_q tabOk ?_); conv => whnf) | (refine wq_cvA tabOk rfl rfl rfl (by simp only [inK]; omega) rfl rfl rfl (run_q tabOk ?_); conv => whnf) | (refine wq_cvB tabOk rfl rfl rfl rfl rfl rfl (run_q tabOk ?_); conv => whnf) | (refine wq_rem rfl rfl rfl rfl rfl rfl (by omega) (by omega) (fun r hr hr0 hr1 hr2 => run_q tabOk ?_); conv => whnf) | (refine wq_quo rfl rfl rfl rfl rfl rfl (by omega) (by omega) (by simp only [inK]; omega) (run_q tabOk ?_); conv => whnf) | (refine wq_mul rfl rfl rfl rfl rfl rfl (by omega) (by omega) (run_q tabOk ?_); conv => whnf) | (refine gs_dt (by first | assumption | omega) ?_; conv => whnf) | (refine gs_df (by first | assumption | omega) ?_; conv => whnf) | (refine gs_t (by assumption) ?_; conv => whnf) | (refine gs_f (by assumption) ?_; conv => whnf) | (refine gs_d (fun hg => ?_) (fun hg => ?_) <;> conv => whnf) | (refine gs_n (fun hg => ?_) (fun hg => ?_) <;> conv => whnf) | (refine gs_nb (fun hg => ?_) (fun hg => ?_) <;> conv => whnf) | (refine gs_b (fun hg => ?_) (fun hg => ?_) <;> conv => whnf)))
        intro W hC hBW
        conv => whnf
        refine And.intro ?_ trivial
        conv => whnf
        have hQW := hQ.up hBW
        refine wb_C fn12 (pAdd hQW.s.set x (by omega) (by have := hQW.few1.1; omega) hQW.s.below.size) rfl rfl rfl rfl rfl rfl ?_
        rintro _ W1 ⟨S', f', r⟩
        have hret := r.ret
        rw [decide_eq_true (by omega : (0 : Int) ≤ (x : Int)), Bool.true_and, Int.toNat_natCast, hQ.ms, lk_get (by rw [hQ.la]; exact hx4)] at hret
        refine ⟨_, hret, (Kept.of hBW).trans r.kept (fun b hb => .inl hb), fun W2 hB2 hC2 => ?_⟩
        conv => whnf
        have hbe : ((!vs[x]!) == vs[x]!) = false := by cases vs[x]! <;> rfl
        rw [hbe]
        conv => whnf
        (repeat' (first | (refine wl_Xn tabOk 4 1 rfl rfl rfl rfl rfl rfl rfl (by omega) (run_l tabOk ?_); conv => whnf) | (refine wl_add rfl rfl rfl rfl rfl rfl (by omega) (by omega) (run_l tabOk ?_); conv => whnf) | (refine wl_sub rfl rfl rfl rfl rfl rfl (by omega) (by omega) (run_l tabOk ?_); conv => whnf) | (refine wl_cvA tabOk rfl rfl rfl (by simp only [inK]; omega) rfl rfl rfl (run_l tabOk ?_); conv => whnf) | (refine wl_cvB tabOk rfl rfl rfl rfl rfl rfl (run_l tabOk ?_); conv => whnf) | (refine wl_rem rfl rfl rfl rfl rfl rfl (by omega) (by omega) (fun r hr hr0 hr1 hr2 => run_l tabOk ?_); conv => whnf) | (refine wl_quo rfl rfl rfl rfl rfl rfl (by omega) (by omega) (by simp only [inK]; omega) (run_l tabOk ?_); conv => whnf) | (refine wl_mul rfl rfl rfl rfl rfl rfl (by omega) (by omega) (run_l tabOk ?_); conv => whnf) | (refine gs_dt (by first | assumption | omega) ?_; conv => whnf) | (refine gs_df (by first | assumption | omega) ?_; conv => whnf) | (refine gs_t (by assumption) ?_; conv => whnf) | (refine gs_f (by assumption) ?_; conv => whnf) | (refine gs_d (fun hg => ?_) (fun hg => ?_) <;> conv => whnf) | (refine gs_n (fun hg => ?_) (fun hg => ?_) <;> conv => whnf) | (refine gs_nb (fun hg => ?_) (fun hg => ?_) <;> conv => whnf) | (refine gs_b (fun hg => ?_) (fun hg => ?_) <;> conv => whnf) | refine fin1 rfl rfl ?_))
        have hrow := blk_up hB2 (r.kept.blk hQW.ha hQ.na.1)
        refine wl_Se tabOk hrow rfl rfl rfl rfl rfl rfl (by rw [show (vb vs).length = vs.length by simp [vb], hQ.la]; omega) rfl rfl ?_
        intro W3 hp3
        have hp3 := put_vb hp3 (b := true) rfl
        have hfin := hQW.add (r.up hB2) hp3 hx4
        refine run_l tabOk ?_
        conv => whnf
        exact hk gs _ _ ⟨rfl, rfl, rfl, rfl, rfl, rfl, trivial⟩ ⟨_, _, _, _, _, _, hfin.swap⟩
      · have hQ := hP6
        have hlr : ∀ k, k ≤ 400 → (rowK (fun j => us[j]! || vs[j]!) (fun j => us[j]!) k).length = 400 := fun k _ => rowK_len _ _ _
        refine lp_loop tabOk (X := Nat) (fun k => [(0, .slice (some ad) acts.length c), (3, .pointer (some ⟨gs, 0, none⟩)), (4, .pointer (some ⟨gt, 0, none⟩)), (5, .slice (some ⟨ga, 0, none⟩) 400 400), (6, .slice (some ⟨gb, 0, none⟩) 400 400), (7, .int .i64 i), (9, .slice (some ⟨ga, 0, none⟩) 400 400), (10, .slice (some ⟨gb, 0, none⟩) 400 400), (11, .pointer (some ⟨gs, 0, none⟩)), (12, .pointer (some ⟨gt, 0, none⟩)), (13, .bool (anyK us vs k)), (14, .int .i64 k)])
          (fun k wk => k ≤ 400 ∧ Kept [ga] w6 wk ∧ wk.heap[ga]? = some (.cells (vb (rowK (fun j => us[j]! || vs[j]!) (fun j => us[j]!) k)).toArray 4 (0, 0))) (fun k => 400 - k) 0 ⟨rfl, rfl, rfl, rfl, rfl, rfl, rfl, rfl, rfl, rfl, rfl, rfl, trivial⟩ ⟨by omega, Kept.refl _ _, by rw [rowK_zero hQ.la]; exact hQ.ha⟩ ?_
        intro k gt' wk ⟨hk4, hKk, hrow⟩
        conv => whnf
        by_cases hkl : k < 400
        · have hb2 := hKk.blk hQ.hb (fun e => hQ.ab (List.mem_singleton.1 e).symm)
          have cy := vb_get hb2 k (by rw [hQ.lb]; exact hkl)
          have cx := vb_get hrow k (by rw [rowK_len]; exact hkl)
          rw [rowK_get _ _ _ hkl, if_neg (by omega)] at cx
          have hnx := anyK_next us vs k
          have hrn : (rowK (fun j => us[j]! || vs[j]!) (fun j => us[j]!) k).set k (us[k]! || vs[k]!) = _ := rowK_next (fun j => us[j]! || vs[j]!) (fun j => us[j]!) hkl
          generalize hmv : anyK us vs k = mv at hnx
          generalize hxv : us[k]! = xv at cx hnx hrn
          generalize hyv : vs[k]! = yv at cy hnx hrn
          have hlen : (vb (rowK (fun j => us[j]! || vs[j]!) (fun j => us[j]!) k)).length = 400 := by simp [vb, rowK_len]
          cases mv <;> cases xv <;> cases yv
          all_goals
            (repeat' (first | (refine wl_L tabOk rfl rfl rfl rfl rfl rfl cx (run_l tabOk ?_); conv => whnf) | (refine wl_L tabOk rfl rfl rfl rfl rfl rfl cy (run_l tabOk ?_); conv => whnf) | (refine wl_Xn tabOk 4 1 rfl rfl rfl rfl rfl rfl rfl (by omega) (run_l tabOk ?_); conv => whnf) | (refine wl_add rfl rfl rfl rfl rfl rfl (by omega) (by omega) (run_l tabOk ?_); conv => whnf) | (refine wl_sub rfl rfl rfl rfl rfl rfl (by omega) (by omega) (run_l tabOk ?_); conv => whnf) | (refine wl_cvA tabOk rfl rfl rfl (by simp only [inK]; omega) rfl rfl rfl (run_l tabOk ?_); conv => whnf) | (refine wl_cvB tabOk rfl rfl rfl rfl rfl rfl (run_l tabOk ?_); conv => whnf) | (refine wl_rem rfl rfl rfl rfl rfl rfl (by omega) (by omega) (fun r hr hr0 hr1 hr2 => run_l tabOk ?_); conv => whnf) | (refine wl_quo rfl rfl rfl rfl rfl rfl (by omega) (by omega) (by simp only [inK]; omega) (run_l tabOk ?_); conv => whnf) | (refine wl_mul rfl rfl rfl rfl rfl rfl (by omega) (by omega) (run_l tabOk ?_); conv => whnf) | (refine gs_dt (by first | assumption | omega) ?_; conv => whnf) | (refine gs_df (by first | assumption | omega) ?_; conv => whnf) | (refine gs_t (by assumption) ?_; conv => whnf) | (refine gs_f (by assumption) ?_; conv => whnf) | (refine gs_d (fun hg => ?_) (fun hg => ?_) <;> conv => whnf) | (refine gs_n (fun hg => ?_) (fun hg => ?_) <;> conv => whnf) | (refine gs_nb (fun hg => ?_) (fun hg => ?_) <;> conv => whnf) | (refine gs_b (fun hg => ?_) (fun hg => ?_) <;> conv => whnf) | refine fin1 rfl rfl ?_))
            refine wl_Se tabOk hrow rfl rfl rfl rfl rfl rfl (by rw [hlen]; omega) rfl rfl ?_
            intro W3 hp3
            have hp3b : W3.heap[ga]? = some (.cells (vb (rowK (fun j => us[j]! || vs[j]!) (fun j => us[j]!) (k + 1))).toArray 4 (0, 0)) := by rw [← hrn]; exact (put_vb hp3 rfl).blk
            refine run_l tabOk ?_
            conv => whnf
            (repeat' (first | (refine wl_add rfl rfl rfl rfl rfl rfl (by omega) (by omega) (run_l tabOk ?_); conv => whnf) | (refine wl_sub rfl rfl rfl rfl rfl rfl (by omega) (by omega) (run_l tabOk ?_); conv => whnf) | (refine wl_cvA tabOk rfl rfl rfl (by simp only [inK]; omega) rfl rfl rfl (run_l tabOk ?_); conv => whnf) | (refine wl_cvB tabOk rfl rfl rfl rfl rfl rfl (run_l tabOk ?_); conv => whnf) | (refine wl_rem rfl rfl rfl rfl rfl rfl (by omega) (by omega) (fun r hr hr0 hr1 hr2 => run_l tabOk ?_); conv => whnf) | (refine wl_quo rfl rfl rfl rfl rfl rfl (by omega) (by omega) (by simp only [inK]; omega) (run_l tabOk ?_); conv => whnf) | (refine wl_mul rfl rfl rfl rfl rfl rfl (by omega) (by omega) (run_l tabOk ?_); conv => whnf) | (refine gs_dt (by first | assumption | omega) ?_; conv => whnf) | (refine gs_df (by first | assumption | omega) ?_; conv => whnf) | (refine gs_t (by assumption) ?_; conv => whnf) | (refine gs_f (by assumption) ?_; conv => whnf) | (refine gs_d (fun hg => ?_) (fun hg => ?_) <;> conv => whnf) | (refine gs_n (fun hg => ?_) (fun hg => ?_) <;> conv => whnf) | (refine gs_nb (fun hg => ?_) (fun hg => ?_) <;> conv => whnf) | (refine gs_b (fun hg => ?_) (fun hg => ?_) <;> conv => whnf) | refine fin1 rfl rfl ?_))
            refine ⟨k + 1, ⟨rfl, rfl, rfl, rfl, rfl, rfl, rfl, rfl, rfl, rfl, ?_, rfl, trivial⟩, ⟨by omega, hKk.put hp3 (.inl (by simp)), hp3b⟩, by omega⟩
            show Value.bool _ = Value.bool _
            rw [hnx]
            rfl
        · obtain rfl : k = 400 := by omega
          have hsz := hKk.size
          have hr1 : ∀ b ∈ [ga], w.heap.size ≤ b := fun b hb => by rw [List.mem_singleton.1 hb]; exact hQ.g0.1
          have hS := hQ.s.kept hKk (fun b hb hm => hQ.na.1 (List.mem_singleton.1 hm ▸ hb)) hr1
          have hT2 := hQ.t.kept hKk (fun b hb hm => hQ.na.2 (List.mem_singleton.1 hm ▸ hb)) hr1
          (repeat' (first | (refine wl_add rfl rfl rfl rfl rfl rfl (by omega) (by omega) (run_l tabOk ?_); conv => whnf) | (refine wl_sub rfl rfl rfl rfl rfl rfl (by omega) (by omega) (run_l tabOk ?_); conv => whnf) | (refine wl_cvA tabOk rfl rfl rfl (by simp only [inK]; omega) rfl rfl rfl (run_l tabOk ?_); conv => whnf) | (refine wl_cvB tabOk rfl rfl rfl rfl rfl rfl (run_l tabOk ?_); conv => whnf) | (refine wl_rem rfl rfl rfl rfl rfl rfl (by omega) (by omega) (fun r hr hr0 hr1 hr2 => run_l tabOk ?_); conv => whnf) | (refine wl_quo rfl rfl rfl rfl rfl rfl (by omega) (by omega) (by simp only [inK]; omega) (run_l tabOk ?_); conv => whnf) | (refine wl_mul rfl rfl rfl rfl rfl rfl (by omega) (by omega) (run_l tabOk ?_); conv => whnf) | (refine gs_dt (by first | assumption | omega) ?_; conv => whnf) | (refine gs_df (by first | assumption | omega) ?_; conv => whnf) | (refine gs_t (by assumption) ?_; conv => whnf) | (refine gs_f (by assumption) ?_; conv => whnf) | (refine gs_d (fun hg => ?_) (fun hg => ?_) <;> conv => whnf) | (refine gs_n (fun hg => ?_) (fun hg => ?_) <;> conv => whnf) | (refine gs_nb (fun hg => ?_) (fun hg => ?_) <;> conv => whnf) | (refine gs_b (fun hg => ?_) (fun hg => ?_) <;> conv => whnf) | refine fin1 rfl rfl ?_))
          refine wl_C fn20 (pJoin hS.set hT2.set (by have := hQ.few1.1; omega) (by have := hQ.few2.1; omega) hS.below.size) rfl rfl rfl rfl rfl rfl rfl ?_
          rintro _ W1 ⟨S', f', r⟩
          have hfin := hQ.join hKk hrow (rowK_len _ _ _) r (fun n => by
            rw [lk_rowK, lk_dec hQ.la, lk_dec hQ.lb]
            cases decide (n < 400) <;> simp)
          have hany : anyK us vs 400 = !decide (S' = S) := anyK_all hQ.la hQ.lb hQ.ms hQ.mt hQ.s.set.wf r.set.wf r.mem
          rw [hany]
          refine ⟨_, r.ret, run_l tabOk ?_⟩
          conv => whnf
          have hbe : ((!decide (S' = S)) == !decide (S' = S)) = true := by simp
          rw [hbe]
          conv => whnf
          exact hk gs _ _ ⟨rfl, rfl, rfl, rfl, rfl, rfl, trivial⟩ ⟨_, _, _, _, _, _, hfin⟩
      · have hQ := hP6.swap
        have hlr : ∀ k, k ≤ 400 → (rowK (fun j => vs[j]! || us[j]!) (fun j => vs[j]!) k).length = 400 := fun k _ => rowK_len _ _ _
        refine lp_loop tabOk (X := Nat) (fun k => [(0, .slice (some ad) acts.length c), (3, .pointer (some ⟨gs, 0, none⟩)), (4, .pointer (some ⟨gt, 0, none⟩)), (5, .slice (some ⟨ga, 0, none⟩) 400 400), (6, .slice (some ⟨gb, 0, none⟩) 400 400), (7, .int .i64 i), (9, .slice (some ⟨gb, 0, none⟩) 400 400), (10, .slice (some ⟨ga, 0, none⟩) 400 400), (11, .pointer (some ⟨gt, 0, none⟩)), (12, .pointer (some ⟨gs, 0, none⟩)), (13, .bool (anyK vs us k)), (14, .int .i64 k)])
          (fun k wk => k ≤ 400 ∧ Kept [gb] w6 wk ∧ wk.heap[gb]? = some (.cells (vb (rowK (fun j => vs[j]! || us[j]!) (fun j => vs[j]!) k)).toArray 4 (0, 0))) (fun k => 400 - k) 0 ⟨rfl, rfl, rfl, rfl, rfl, rfl, rfl, rfl, rfl, rfl, rfl, rfl, trivial⟩ ⟨by omega, Kept.refl _ _, by rw [rowK_zero hQ.la]; exact hQ.ha⟩ ?_
        intro k gs' wk ⟨hk4, hKk, hrow⟩
        conv => whnf
        by_cases hkl : k < 400
        · have hb2 := hKk.blk hQ.hb (fun e => hQ.ab (List.mem_singleton.1 e).symm)
          have cy := vb_get hb2 k (by rw [hQ.lb]; exact hkl)
          have cx := vb_get hrow k (by rw [rowK_len]; exact hkl)
          rw [rowK_get _ _ _ hkl, if_neg (by omega)] at cx
          have hnx := anyK_next vs us k
          have hrn : (rowK (fun j => vs[j]! || us[j]!) (fun j => vs[j]!) k).set k (vs[k]! || us[k]!) = _ := rowK_next (fun j => vs[j]! || us[j]!) (fun j => vs[j]!) hkl
          generalize hmv : anyK vs us k = mv at hnx
          generalize hxv : vs[k]! = xv at cx hnx hrn
          generalize hyv : us[k]! = yv at cy hnx hrn
          have hlen : (vb (rowK (fun j => vs[j]! || us[j]!) (fun j => vs[j]!) k)).length = 400 := by simp [vb, rowK_len]
          cases mv <;> cases xv <;> cases yv
          all_goals
            (repeat' (first | (refine wl_L tabOk rfl rfl rfl rfl rfl rfl cx (run_l tabOk ?_); conv => whnf) | (refine wl_L tabOk rfl rfl rfl rfl rfl rfl cy (run_l tabOk ?_); conv => whnf) | (refine wl_Xn tabOk 4 1 rfl rfl rfl rfl rfl rfl rfl (by omega) (run_l tabOk ?_); conv => whnf) | (refine wl_add rfl rfl rfl rfl rfl rfl (by omega) (by omega) (run_l tabOk ?_); conv => whnf) | (refine wl_sub rfl rfl rfl rfl rfl rfl (by omega) (by omega) (run_l tabOk ?_); conv => whnf) | (refine wl_cvA tabOk rfl rfl rfl (by simp only [inK]; omega) rfl rfl rfl (run_l tabOk ?_); conv => whnf) | (refine wl_cvB tabOk rfl rfl rfl rfl rfl rfl (run_l tabOk ?_); conv => whnf) | (refine wl_rem rfl rfl rfl rfl rfl rfl (by omega) (by omega) (fun r hr hr0 hr1 hr2 => run_l tabOk ?_); conv => whnf) | (refine wl_quo rfl rfl rfl rfl rfl rfl (by omega) (by omega) (by simp only [inK]; omega) (run_l tabOk ?_); conv => whnf) | (refine wl_mul rfl rfl rfl rfl rfl rfl (by omega) (by omega) (run_l tabOk ?_); conv => whnf) | (refine gs_dt (by first | assumption | omega) ?_; conv => whnf) | (refine gs_df (by first | assumption | omega) ?_; conv => whnf) | (refine gs_t (by assumption) ?_; conv => whnf) | (refine gs_f (by assumption) ?_; conv => whnf) | (refine gs_d (fun hg => ?_) (fun hg => ?_) <;> conv => whnf) | (refine gs_n (fun hg => ?_) (fun hg => ?_) <;> conv => whnf) | (refine gs_nb (fun hg => ?_) (fun hg => ?_) <;> conv => whnf) | (refine gs_b (fun hg => ?_) (fun hg => ?_) <;> conv => whnf) | refine fin1 rfl rfl ?_))
            refine wl_Se tabOk hrow rfl rfl rfl rfl rfl rfl (by rw [hlen]; omega) rfl rfl ?_
            intro W3 hp3
            have hp3b : W3.heap[gb]? = some (.cells (vb (rowK (fun j => vs[j]! || us[j]!) (fun j => vs[j]!) (k + 1))).toArray 4 (0, 0)) := by rw [← hrn]; exact (put_vb hp3 rfl).blk
            refine run_l tabOk ?_
            conv => whnf
            (repeat' (first | (refine wl_add rfl rfl rfl rfl rfl rfl (by omega) (by omega) (run_l tabOk ?_); conv => whnf) | (refine wl_sub rfl rfl rfl rfl rfl rfl (by omega) (by omega) (run_l tabOk ?_); conv => whnf) | (refine wl_cvA tabOk rfl rfl rfl (by simp only [inK]; omega) rfl rfl rfl (run_l tabOk ?_); conv => whnf) | (refine wl_cvB tabOk rfl rfl rfl rfl rfl rfl (run_l tabOk ?_); conv => whnf) | (refine wl_rem rfl rfl rfl rfl rfl rfl (by omega) (by omega) (fun r hr hr0 hr1 hr2 => run_l tabOk ?_); conv => whnf) | (refine wl_quo rfl rfl rfl rfl rfl rfl (by omega) (by omega) (by simp only [inK]; omega) (run_l tabOk ?_); conv => whnf) | (refine wl_mul rfl rfl rfl rfl rfl rfl (by omega) (by omega) (run_l tabOk ?_); conv => whnf) | (refine gs_dt (by first | assumption | omega) ?_; conv => whnf) | (refine gs_df (by first | assumption | omega) ?_; conv => whnf) | (refine gs_t (by assumption) ?_; conv => whnf) | (refine gs_f (by assumption) ?_; conv => whnf) | (refine gs_d (fun hg => ?_) (fun hg => ?_) <;> conv => whnf) | (refine gs_n (fun hg => ?_) (fun hg => ?_) <;> conv => whnf) | (refine gs_nb (fun hg => ?_) (fun hg => ?_) <;> conv => whnf) | (refine gs_b (fun hg => ?_) (fun hg => ?_) <;> conv => whnf) | refine fin1 rfl rfl ?_))
            refine ⟨k + 1, ⟨rfl, rfl, rfl, rfl, rfl, rfl, rfl, rfl, rfl, rfl, ?_, rfl, trivial⟩, ⟨by omega, hKk.put hp3 (.inl (by simp)), hp3b⟩, by omega⟩
            show Value.bool _ = Value.bool _
            rw [hnx]
            rfl
        · obtain rfl : k = 400 := by omega
          have hsz := hKk.size
          have hr1 : ∀ b ∈ [gb], w.heap.size ≤ b := fun b hb => by rw [List.mem_singleton.1 hb]; exact hQ.g0.1
          have hS := hQ.s.kept hKk (fun b hb hm => hQ.na.1 (List.mem_singleton.1 hm ▸ hb)) hr1
          have hT2 := hQ.t.kept hKk (fun b hb hm => hQ.na.2 (List.mem_singleton.1 hm ▸ hb)) hr1
          (repeat' (first | (refine wl_add rfl rfl rfl rfl rfl rfl (by omega) (by omega) (run_l tabOk ?_); conv => whnf) | (refine wl_sub rfl rfl rfl rfl rfl rfl (by omega) (by omega) (run_l tabOk ?_); conv => whnf) | (refine wl_cvA tabOk rfl rfl rfl (by simp only [inK]; omega) rfl rfl rfl (run_l tabOk ?_); conv => whnf) | (refine wl_cvB tabOk rfl rfl rfl rfl rfl rfl (run_l tabOk ?_); conv => whnf) | (refine wl_rem rfl rfl rfl rfl rfl rfl (by omega) (by omega) (fun r hr hr0 hr1 hr2 => run_l tabOk ?_); conv => whnf) | (refine wl_quo rfl rfl rfl rfl rfl rfl (by omega) (by omega) (by simp only [inK]; omega) (run_l tabOk ?_); conv => whnf) | (refine wl_mul rfl rfl rfl rfl rfl rfl (by omega) (by omega) (run_l tabOk ?_); conv => whnf) | (refine gs_dt (by first | assumption | omega) ?_; conv => whnf) | (refine gs_df (by first | assumption | omega) ?_; conv => whnf) | (refine gs_t (by assumption) ?_; conv => whnf) | (refine gs_f (by assumption) ?_; conv => whnf) | (refine gs_d (fun hg => ?_) (fun hg => ?_) <;> conv => whnf) | (refine gs_n (fun hg => ?_) (fun hg => ?_) <;> conv => whnf) | (refine gs_nb (fun hg => ?_) (fun hg => ?_) <;> conv => whnf) | (refine gs_b (fun hg => ?_) (fun hg => ?_) <;> conv => whnf) | refine fin1 rfl rfl ?_))
          refine wl_C fn20 (pJoin hS.set hT2.set (by have := hQ.few1.1; omega) (by have := hQ.few2.1; omega) hS.below.size) rfl rfl rfl rfl rfl rfl rfl ?_
          rintro _ W1 ⟨S', f', r⟩
          have hfin := hQ.join hKk hrow (rowK_len _ _ _) r (fun n => by
            rw [lk_rowK, lk_dec hQ.la, lk_dec hQ.lb]
            cases decide (n < 400) <;> simp)
          have hany : anyK vs us 400 = !decide (S' = T) := anyK_all hQ.la hQ.lb hQ.ms hQ.mt hQ.s.set.wf r.set.wf r.mem
          rw [hany]
          refine ⟨_, r.ret, run_l tabOk ?_⟩
          conv => whnf
          have hbe : ((!decide (S' = T)) == !decide (S' = T)) = true := by simp
          rw [hbe]
          conv => whnf
          exact hk gs _ _ ⟨rfl, rfl, rfl, rfl, rfl, rfl, trivial⟩ ⟨_, _, _, _, _, _, hfin.swap⟩
      · refine wl_C fn19 (pCopy hP6.s.set (by have := hP6.few1.1; omega)) rfl rfl rfl rfl rfl rfl rfl ?_
        rintro _ W1 ⟨g', f', rfl, hC⟩
        have hfin := hP6.copy hC
        refine ⟨_, rfl, run_l tabOk ?_⟩
        conv => whnf
        exact hk g' _ _ ⟨rfl, rfl, rfl, rfl, rfl, rfl, trivial⟩ ⟨_, _, _, _, _, _, hfin⟩
      · have hQ := hP6
        have kc : ∀ w', Kept fs w6 w' → w'.cell? ((⟨ga, 0, none⟩ : Addr).add (x * 1)) = some (.bool us[x]!) := fun w' hk' => vb_get (hk'.blk hQ.ha hQ.na.1) x (by rw [hQ.la]; exact hx4)
        refine wc_qx [0, 1, 3, 4, 5, 6] 1 7 (stable_Kw w6 fs) tabOk mixed (by kernel_rfl) (Kept.refl _ _) ?_
        conv => whnf
        (repeat' (first | (refine wq_LC tabOk kc rfl rfl rfl rfl rfl rfl (run_q tabOk ?_); conv => whnf) | (refine wq_Xn tabOk 4 1 rfl rfl rfl rfl rfl rfl rfl (by omega) (run_q tabOk ?_); conv => whnf) | (refine wq_add rfl rfl rfl rfl rfl rfl (by omega) (by omega) (run_q tabOk ?_); conv => whnf) | (refine wq_sub rfl rfl rfl rfl rfl rfl (by omega) (by omega) (run_q tabOk ?_); conv => whnf) | (refine wq_cvA tabOk rfl rfl rfl (by simp only [inK]; omega) rfl rfl rfl (run_q tabOk ?_); conv => whnf) | (refine wq_cvB tabOk rfl rfl rfl rfl rfl rfl (run_q tabOk ?_); conv => whnf) | (refine wq_rem rfl rfl rfl rfl rfl rfl (by omega) (by omega) (fun r hr hr0 hr1 hr2 => run_q tabOk ?_); conv => whnf) | (refine wq_quo rfl rfl rfl rfl rfl rfl (by omega) (by omega) (by simp only [inK]; omega) (run_q tabOk ?_); conv => whnf) | (refine wq_mul rfl rfl rfl rfl rfl rfl (by omega) (by omega) (run_q tabOk ?_); conv => whnf) | (refine gs_dt (by first | assumption | omega) ?_; conv => whnf) | (refine gs_df (by first | assumption | omega) ?_; conv => whnf) | (refine gs_t (by assumption) ?_; conv => whnf) | (refine gs_f (by assumption) ?_; conv => whnf) | (refine gs_d (fun hg => ?_) (fun hg => ?_) <;> conv => whnf) | (refine gs_n (fun hg => ?_) (fun hg => ?_) <;> conv => whnf) | (refine gs_nb (fun hg => ?_) (fun hg => ?_) <;> conv => whnf) | (refine gs_b (fun hg => ?_) (fun hg => ?_) <;> conv => whnf)))
        intro W hC hBW
        conv => whnf
        refine And.intro ?_ trivial
        conv => whnf
        have hQW := hQ.up hBW
        refine wb_C fn12 (pAdd hQW.s.set x (by omega) (by have := hQW.few1.1; omega) hQW.s.below.size) rfl rfl rfl rfl rfl rfl ?_
        rintro _ W1 ⟨S', f', r⟩
        have hret := r.ret
        rw [decide_eq_true (by omega : (0 : Int) ≤ (x : Int)), Bool.true_and, Int.toNat_natCast, hQ.ms, lk_get (by rw [hQ.la]; exact hx4)] at hret
        refine ⟨_, hret, (Kept.of hBW).trans r.kept (fun b hb => .inl hb), fun W2 hB2 hC2 => ?_⟩
        conv => whnf
        have hbe : ((!us[x]!) == us[x]!) = false := by cases us[x]! <;> rfl
        rw [hbe]
        conv => whnf
        (repeat' (first | (refine wl_Xn tabOk 4 1 rfl rfl rfl rfl rfl rfl rfl (by omega) (run_l tabOk ?_); conv => whnf) | (refine wl_add rfl rfl rfl rfl rfl rfl (by omega) (by omega) (run_l tabOk ?_); conv => whnf) | (refine wl_sub rfl rfl rfl rfl rfl rfl (by omega) (by omega) (run_l tabOk ?_); conv => whnf) | (refine wl_cvA tabOk rfl rfl rfl (by simp only [inK]; omega) rfl rfl rfl (run_l tabOk ?_); conv => whnf) | (refine wl_cvB tabOk rfl rfl rfl rfl rfl rfl (run_l tabOk ?_); conv => whnf) | (refine wl_rem rfl rfl rfl rfl rfl rfl (by omega) (by omega) (fun r hr hr0 hr1 hr2 => run_l tabOk ?_); conv => whnf) | (refine wl_quo rfl rfl rfl rfl rfl rfl (by omega) (by omega) (by simp only [inK]; omega) (run_l tabOk ?_); conv => whnf) | (refine wl_mul rfl rfl rfl rfl rfl rfl (by omega) (by omega) (run_l tabOk ?_); conv => whnf) | (refine gs_dt (by first | assumption | omega) ?_; conv => whnf) | (refine gs_df (by first | assumption | omega) ?_; conv => whnf) | (refine gs_t (by assumption) ?_; conv => whnf) | (refine gs_f (by assumption) ?_; conv => whnf) | (refine gs_d (fun hg => ?_) (fun hg => ?_) <;> conv => whnf) | (refine gs_n (fun hg => ?_) (fun hg => ?_) <;> conv => whnf) | (refine gs_nb (fun hg => ?_) (fun hg => ?_) <;> conv => whnf) | (refine gs_b (fun hg => ?_) (fun hg => ?_) <;> conv => whnf) | refine fin1 rfl rfl ?_))
        have hrow := blk_up hB2 (r.kept.blk hQW.ha hQ.na.1)
        refine wl_Se tabOk hrow rfl rfl rfl rfl rfl rfl (by rw [show (vb us).length = us.length by simp [vb], hQ.la]; omega) rfl rfl ?_
        intro W3 hp3
        have hp3 := put_vb hp3 (b := true) rfl
        have hfin := hQW.add (r.up hB2) hp3 hx4
        refine run_l tabOk ?_
        conv => whnf
        exact hk gs _ _ ⟨rfl, rfl, rfl, rfl, rfl, rfl, trivial⟩ ⟨_, _, _, _, _, _, hfin⟩
  · (repeat' (first | (refine wl_add rfl rfl rfl rfl rfl rfl (by omega) (by omega) (run_l tabOk ?_); conv => whnf) | (refine wl_sub rfl rfl rfl rfl rfl rfl (by omega) (by omega) (run_l tabOk ?_); conv => whnf) | (refine wl_cvA tabOk rfl rfl rfl (by simp only [inK]; omega) rfl rfl rfl (run_l tabOk ?_); conv => whnf) | (refine wl_cvB tabOk rfl rfl rfl rfl rfl rfl (run_l tabOk ?_); conv => whnf) | (refine wl_rem rfl rfl rfl rfl rfl rfl (by omega) (by omega) (fun r hr hr0 hr1 hr2 => run_l tabOk ?_); conv => whnf) | (refine wl_quo rfl rfl rfl rfl rfl rfl (by omega) (by omega) (by simp only [inK]; omega) (run_l tabOk ?_); conv => whnf) | (refine wl_mul rfl rfl rfl rfl rfl rfl (by omega) (by omega) (run_l tabOk ?_); conv => whnf) | (refine gs_dt (by first | assumption | omega) ?_; conv => whnf) | (refine gs_df (by first | assumption | omega) ?_; conv => whnf) | (refine gs_t (by assumption) ?_; conv => whnf) | (refine gs_f (by assumption) ?_; conv => whnf) | (refine gs_d (fun hg => ?_) (fun hg => ?_) <;> conv => whnf) | (refine gs_n (fun hg => ?_) (fun hg => ?_) <;> conv => whnf) | (refine gs_nb (fun hg => ?_) (fun hg => ?_) <;> conv => whnf) | (refine gs_b (fun hg => ?_) (fun hg => ?_) <;> conv => whnf) | refine fin1 rfl rfl ?_))
    exact ⟨rfl, hP.s.below⟩
end Go.Proofs.YtkmnhkfgjadppaaDoor
