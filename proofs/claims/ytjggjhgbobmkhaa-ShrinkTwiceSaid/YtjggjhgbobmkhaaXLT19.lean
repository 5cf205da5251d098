/- The walk of ShrinkTwice. -/
import Derived.Test.YtjggjhgbobmkhaaA24
import Derived.Test.YtjggjhgbobmkhaaA25
import Derived.Test.YtjggjhgbobmkhaaA8
namespace Go.Proofs.Ytjggjhgbobmkhaa
open Go.RowKit
set_option linter.unusedVariables false
set_option linter.unusedSimpArgs false
set_option maxRecDepth 100000
theorem mg_row2 {n n2 C : Nat} {M M2 : Mat} (h : Shape n C M) (h2 : Shape n2 C M2) {v w : Nat} (hv : v < n) (hw : w < n2) (e : ∀ o, mg M v o = true ↔ mg M2 w o = true) : M[v]! = M2[w]! := by
  have h1 := h.cols v hv
  have h3 := h2.cols w hw
  refine List.ext_getElem (by omega) fun k h4 h5 => ?_
  have := e k
  unfold mg at this
  rw [getElem!_pos _ k h4, getElem!_pos _ k h5] at this
  exact Bool.eq_iff_iff.2 this
theorem rowPts_nil {r : List Bool} (h : ∀ j : Nat, ¬ r[j]! = true) : rowPts r = [] := by
  unfold rowPts rowTo
  rw [List.map_eq_nil_iff, List.filter_eq_nil_iff]
  exact fun j _ => h j
theorem pts_at {n C : Nat} {M : Mat} (h : Shape n C M) {v : Nat} (hv : v < n) : (ptsOf M)[v]! = rowPts M[v]! := by
  have hl := h.rows
  rw [getElem!_pos _ v (by simp [ptsOf]; omega), getElem!_pos M v (by omega)]
  simp [ptsOf]
theorem ptsLen {n C : Nat} {M : Mat} (h : Shape n C M) : (ptsOf M).length = n := by
  have := h.rows
  simp [ptsOf, this]
/-- There is a least map. -/
theorem exists_least {n : Nat} {xs : List Cell} {ys : List Con} (hr : rightB ⟨n, xs, ys⟩ = true) : ∃ M, IsLeast ⟨(n : Int), xs, ys⟩ M := by
  have hP := right_conP hr
  have hX := right_cellP hr
  have dn : ∀ v o, mg (mkM n xs.length fun v o => ∀ N, ClosedM ⟨(n : Int), xs, ys⟩ N → mg N v o = true) v o = true → o < xs.length ∧ ∀ N, ClosedM ⟨(n : Int), xs, ys⟩ N → mg N v o = true := fun v o h => ⟨(mg_mk.1 h).2.1, (mg_mk.1 h).2.2⟩
  refine ⟨mkM n xs.length fun v o => ∀ N, ClosedM ⟨(n : Int), xs, ys⟩ N → mg N v o = true, ?_, ?_, fun N hN v o hm => (mg_mk.1 hm).2.2 N hN⟩
  · refine ⟨by simp [mkM], fun i hi => ?_⟩
    rw [getElem!_pos _ i (by simpa [mkM] using hi)]
    simp [mkM]
  · refine closed_con.2 fun c hcm => ?_
    obtain ⟨hk, ha, hb, hl, hargs, h5⟩ := hP c hcm
    refine ⟨fun k1 => ?_, fun k2 q1 q2 o ho => ?_, fun k1 k2 p hp hs => ?_⟩
    · have := (h5 (by omega)).1
      have := hb.2.1 k1
      exact mg_mk.2 ⟨by omega, by omega, fun N hN => (closed_con.1 hN c hcm).1 k1⟩
    · obtain ⟨h1, h2⟩ := dn _ _ ho
      exact mg_mk.2 ⟨by omega, h1, fun N hN => (closed_con.1 hN c hcm).2.1 k2 q1 q2 o (h2 N hN)⟩
    · obtain ⟨_, hsN⟩ := dn _ _ hs
      have hxv := (hX _ (xs_mem hp)).1
      have hr3 := fun N hN => (closed_con.1 hN c hcm).2.2 k1 k2 p hp (hsN N hN)
      refine ⟨fun k3 hfn q1 q2 o ho => ?_, fun k4 hfn q1 q2 o ho => ?_, fun k5 hfn => ⟨fun q1 q2 o ho => ?_, fun k hk1 hk2 q1 q2 o ho => ?_⟩⟩
      · obtain ⟨h1, h2⟩ := dn _ _ ho
        exact mg_mk.2 ⟨by omega, h1, fun N hN => (hr3 N hN).1 k3 hfn q1 q2 o (h2 N hN)⟩
      · obtain ⟨h1, h2⟩ := dn _ _ ho
        exact mg_mk.2 ⟨by omega, h1, fun N hN => (hr3 N hN).2.1 k4 hfn q1 q2 o (h2 N hN)⟩
      · obtain ⟨h1, h2⟩ := dn _ _ ho
        exact mg_mk.2 ⟨by omega, h1, fun N hN => ((hr3 N hN).2.2 k5 hfn).1 q1 q2 o (h2 N hN)⟩
      · obtain ⟨h1, h2⟩ := dn _ _ ho
        have := (hX _ (xs_mem hp)).2.2 _ (arg_mem hk1)
        exact mg_mk.2 ⟨by omega, h1, fun N hN => ((hr3 N hN).2.2 k5 hfn).2 k hk1 hk2 q1 q2 o (h2 N hN)⟩
set_option maxHeartbeats 16000000 in
theorem lawShrinkTwice (d : Draft) (A : Option Addr) (c : Nat) (m1 m2 : Int) (w : World) (h : RActs w A d.acts) (hk : (0 ≤ d.vars ∧ d.vars ≤ 255) ∧ 0 ≤ d.cells ∧ d.cells ≤ 255) (hm1 : 0 ≤ m1 ∧ m1 ≤ 255) (hm2 : 0 ≤ m2 ∧ m2 ≤ 255) :
    Calls Try.prog 13 #[.agg #[.int .u8 d.vars, .int .u8 d.cells, .slice A d.acts.length c], .int .u8 m1, .int .u8 m2] w fun e w' => e = .returned (.bool true) ∧ Below w.heap.size w w' := by
  refine enterR (args := [.agg #[.int .u8 d.vars, .int .u8 d.cells, .slice A d.acts.length c], .int .u8 m1, .int .u8 m2]) tabOk Try.func13 rfl Try.ntmps13 rfl ?_; conv => whnf
  refine wl_box rfl rfl rfl rfl rfl rfl ?_
  intro g1 w1 hn1
  refine run_l tabOk ?_
  conv => whnf
  refine wl_C fn25 (awake19 _) rfl rfl rfl rfl rfl rfl rfl ?_
  rintro _ w2 ⟨rfl, hB2⟩
  have hb := blk_up hB2 hn1.blk
  have hB := bup hn1.below hB2
  refine ⟨_, rfl, run_l tabOk ?_⟩
  conv => whnf
  by_cases hbig : 40 < d.acts.length
  · (repeat' (first | (refine wl_Lg tabOk hb rfl rfl rfl rfl rfl rfl rfl (run_l tabOk ?_); conv => whnf) | ((first | refine wl_add rfl rfl rfl rfl rfl rfl (by omega) (by omega) (run_l tabOk ?_) | refine wl_sub rfl rfl rfl rfl rfl rfl (by omega) (by omega) (run_l tabOk ?_) | refine wl_cvA tabOk rfl rfl rfl (by simp only [inK]; omega) rfl rfl rfl (run_l tabOk ?_) | refine wl_cvB tabOk rfl rfl rfl rfl rfl rfl (run_l tabOk ?_) | refine wl_rem rfl rfl rfl rfl rfl rfl (by omega) (by omega) (fun r hr hr0 hr1 hr2 => run_l tabOk ?_) | refine wl_quo rfl rfl rfl rfl rfl rfl (by omega) (by omega) (by simp only [inK]; omega) (run_l tabOk ?_) | refine wl_mul rfl rfl rfl rfl rfl rfl (by omega) (by omega) (run_l tabOk ?_) | refine gs_dt (by first | assumption | omega) ?_ | refine gs_df (by first | assumption | omega) ?_ | refine gs_t (by assumption) ?_ | refine gs_f (by assumption) ?_ | refine gs_d (fun hg => ?_) (fun hg => ?_) | refine gs_n (fun hg => ?_) (fun hg => ?_) | refine gs_nb (fun hg => ?_) (fun hg => ?_) | refine gs_b (fun hg => ?_) (fun hg => ?_)) <;> conv => whnf) | refine fin1 rfl rfl ?_))
    refine wl_C fn25 (awake19 _) rfl rfl rfl rfl rfl rfl rfl ?_
    rintro _ w3 ⟨rfl, hB3⟩
    refine ⟨_, rfl, run_l tabOk ?_⟩
    conv => whnf
    (repeat' (first | ((first | refine wl_add rfl rfl rfl rfl rfl rfl (by omega) (by omega) (run_l tabOk ?_) | refine wl_sub rfl rfl rfl rfl rfl rfl (by omega) (by omega) (run_l tabOk ?_) | refine wl_cvA tabOk rfl rfl rfl (by simp only [inK]; omega) rfl rfl rfl (run_l tabOk ?_) | refine wl_cvB tabOk rfl rfl rfl rfl rfl rfl (run_l tabOk ?_) | refine wl_rem rfl rfl rfl rfl rfl rfl (by omega) (by omega) (fun r hr hr0 hr1 hr2 => run_l tabOk ?_) | refine wl_quo rfl rfl rfl rfl rfl rfl (by omega) (by omega) (by simp only [inK]; omega) (run_l tabOk ?_) | refine wl_mul rfl rfl rfl rfl rfl rfl (by omega) (by omega) (run_l tabOk ?_) | refine gs_dt (by first | assumption | omega) ?_ | refine gs_df (by first | assumption | omega) ?_ | refine gs_t (by assumption) ?_ | refine gs_f (by assumption) ?_ | refine gs_d (fun hg => ?_) (fun hg => ?_) | refine gs_n (fun hg => ?_) (fun hg => ?_) | refine gs_nb (fun hg => ?_) (fun hg => ?_) | refine gs_b (fun hg => ?_) (fun hg => ?_)) <;> conv => whnf) | refine fin1 rfl rfl ?_))
    exact ⟨rfl, bup hB hB3⟩
  (repeat' (first | (refine wl_Lg tabOk hb rfl rfl rfl rfl rfl rfl rfl (run_l tabOk ?_); conv => whnf) | (refine wl_Lag tabOk hb rfl rfl rfl rfl rfl rfl (run_l tabOk ?_); conv => whnf) | ((first | refine wl_add rfl rfl rfl rfl rfl rfl (by omega) (by omega) (run_l tabOk ?_) | refine wl_sub rfl rfl rfl rfl rfl rfl (by omega) (by omega) (run_l tabOk ?_) | refine wl_cvA tabOk rfl rfl rfl (by simp only [inK]; omega) rfl rfl rfl (run_l tabOk ?_) | refine wl_cvB tabOk rfl rfl rfl rfl rfl rfl (run_l tabOk ?_) | refine wl_rem rfl rfl rfl rfl rfl rfl (by omega) (by omega) (fun r hr hr0 hr1 hr2 => run_l tabOk ?_) | refine wl_quo rfl rfl rfl rfl rfl rfl (by omega) (by omega) (by simp only [inK]; omega) (run_l tabOk ?_) | refine wl_mul rfl rfl rfl rfl rfl rfl (by omega) (by omega) (run_l tabOk ?_) | refine gs_dt (by first | assumption | omega) ?_ | refine gs_df (by first | assumption | omega) ?_ | refine gs_t (by assumption) ?_ | refine gs_f (by assumption) ?_ | refine gs_d (fun hg => ?_) (fun hg => ?_) | refine gs_n (fun hg => ?_) (fun hg => ?_) | refine gs_nb (fun hg => ?_) (fun hg => ?_) | refine gs_b (fun hg => ?_) (fun hg => ?_)) <;> conv => whnf) | refine fin1 rfl rfl ?_))
  refine wl_C fn15 (refMake d A c w2 (h.up stays_Act hB) hk.1 hk.2) rfl rfl rfl rfl rfl rfl rfl ?_
  rintro _ w3 ⟨s, va, vb', bs, cs, rfl, hB3, hM⟩
  have hright := hM.right
  have hvars := hM.vars
  obtain ⟨A1, c1, rfl, _, hr1⟩ := hM.cells.row
  obtain ⟨A2, c2, rfl, _, hr2⟩ := hM.cons.row
  have hB03 := bup hB hB3
  clear hM hb hB2 hn1
  obtain ⟨vars, xs, ys⟩ := s
  simp only at hright hvars hr1 hr2
  obtain ⟨n, rfl⟩ : ∃ n : Nat, vars = n := ⟨vars.toNat, by omega⟩
  have hn12 : n ≤ 12 := by omega
  refine ⟨_, rfl, run_l tabOk ?_⟩
  conv => whnf
  refine wl_alloc tabOk rfl rfl rfl rfl rfl rfl ?_
  intro g3 w4 hn4
  refine run_l tabOk ?_
  conv => whnf
  refine wl_Sa tabOk hn4.blk rfl rfl rfl rfl rfl (by simp [Value.oneCell']) rfl rfl ?_
  intro w5 hp5
  have hB5 : Below w3.heap.size w3 w5 := hp5.below hn4.below (by have := hn4.at_; omega) (by have := hn4.size; omega)
  have hb3 : w5.heap[g3]? = some (.cells #[.int .i64 n, .slice A1 xs.length c1, .slice A2 ys.length c2] 29 (0, 0)) := hp5.blk
  have hs1 := hr1.up stays_Cell hB5
  have hs2 := hr2.up stays_Con hB5
  have hB05 := bup hB03 hB5
  have hnn := right_few hright
  clear hp5 hn4 hB03 hB5 hB3 hr1 hr2 hbig
  refine run_l tabOk ?_
  conv => whnf
  (repeat' (first | (refine wl_Lag tabOk hb3 rfl rfl rfl rfl rfl rfl (run_l tabOk ?_); conv => whnf) | (refine wl_rem rfl rfl rfl rfl rfl rfl (by omega) (by omega) (fun k1 r1 r2 r3 r4 => run_l tabOk ?_); (conv => whnf)) | ((first | refine wl_add rfl rfl rfl rfl rfl rfl (by omega) (by omega) (run_l tabOk ?_) | refine wl_sub rfl rfl rfl rfl rfl rfl (by omega) (by omega) (run_l tabOk ?_) | refine wl_cvA tabOk rfl rfl rfl (by simp only [inK]; omega) rfl rfl rfl (run_l tabOk ?_) | refine wl_cvB tabOk rfl rfl rfl rfl rfl rfl (run_l tabOk ?_) | refine wl_rem rfl rfl rfl rfl rfl rfl (by omega) (by omega) (fun r hr hr0 hr1 hr2 => run_l tabOk ?_) | refine wl_quo rfl rfl rfl rfl rfl rfl (by omega) (by omega) (by simp only [inK]; omega) (run_l tabOk ?_) | refine wl_mul rfl rfl rfl rfl rfl rfl (by omega) (by omega) (run_l tabOk ?_) | refine gs_dt (by first | assumption | omega) ?_ | refine gs_df (by first | assumption | omega) ?_ | refine gs_t (by assumption) ?_ | refine gs_f (by assumption) ?_ | refine gs_d (fun hg => ?_) (fun hg => ?_) | refine gs_n (fun hg => ?_) (fun hg => ?_) | refine gs_nb (fun hg => ?_) (fun hg => ?_) | refine gs_b (fun hg => ?_) (fun hg => ?_)) <;> conv => whnf) | refine fin1 rfl rfl ?_))
  have hby := shBy n xs ys A1 A2 c1 c2 k1 w5 hright ⟨by omega, by omega⟩ hs1 hs2
  refine wl_C fn27 hby rfl rfl rfl rfl rfl rfl rfl ?_
  rintro _ w6 ⟨gw, wh, lab, H, B, D1, d1, D2, d2, rfl, hA, hcan, hLM, hBa⟩
  refine ⟨_, rfl, run_l tabOk ?_⟩
  conv => whnf
  (repeat' (first | ((first | refine wl_add rfl rfl rfl rfl rfl rfl (by omega) (by omega) (run_l tabOk ?_) | refine wl_sub rfl rfl rfl rfl rfl rfl (by omega) (by omega) (run_l tabOk ?_) | refine wl_cvA tabOk rfl rfl rfl (by simp only [inK]; omega) rfl rfl rfl (run_l tabOk ?_) | refine wl_cvB tabOk rfl rfl rfl rfl rfl rfl (run_l tabOk ?_) | refine wl_rem rfl rfl rfl rfl rfl rfl (by omega) (by omega) (fun r hr hr0 hr1 hr2 => run_l tabOk ?_) | refine wl_quo rfl rfl rfl rfl rfl rfl (by omega) (by omega) (by simp only [inK]; omega) (run_l tabOk ?_) | refine wl_mul rfl rfl rfl rfl rfl rfl (by omega) (by omega) (run_l tabOk ?_) | refine gs_dt (by first | assumption | omega) ?_ | refine gs_df (by first | assumption | omega) ?_ | refine gs_t (by assumption) ?_ | refine gs_f (by assumption) ?_ | refine gs_d (fun hg => ?_) (fun hg => ?_) | refine gs_n (fun hg => ?_) (fun hg => ?_) | refine gs_nb (fun hg => ?_) (fun hg => ?_) | refine gs_b (fun hg => ?_) (fun hg => ?_)) <;> conv => whnf) | refine fin1 rfl rfl ?_))
  refine wl_alloc tabOk rfl rfl rfl rfl rfl rfl ?_
  intro g6 w7 hn7
  refine run_l tabOk ?_
  conv => whnf
  refine wl_Sa tabOk hn7.blk rfl rfl rfl rfl rfl (by simp [Value.oneCell']) rfl rfl ?_
  intro w8 hp8
  have hBb : Below w6.heap.size w6 w8 := hp8.below hn7.below (by have := hn7.at_; omega) (by have := hn7.size; omega)
  have hbt := hp8.blk
  have hA := hA.up hBb
  have hBB := bup hBa hBb
  have hb3 := blk_up hBB hb3
  have hs1 := hs1.up stays_Cell hBB
  have hs2 := hs2.up stays_Con hBB
  clear hp8 hn7 hBa hBb hby r1 r2
  refine run_l tabOk ?_
  conv => whnf
  obtain ⟨ht1, ht2⟩ := hA.rows
  have hB08 := bup hB05 hBB
  obtain ⟨M, hIL⟩ := exists_least hright
  have hW := wok_of hright hIL hcan hLM
  have hsr := sh_right hright hW
  obtain ⟨M', hIL'⟩ := exists_least hsr
  have hcnt := hnn.1
  have hcle := nxt_leV wh n
  (repeat' (first | (refine wl_Lag tabOk hbt rfl rfl rfl rfl rfl rfl (run_l tabOk ?_); conv => whnf) | (refine wl_rem rfl rfl rfl rfl rfl rfl (by omega) (by omega) (fun k2 r1 r2 r3 r4 => run_l tabOk ?_); (conv => whnf)) | ((first | refine wl_add rfl rfl rfl rfl rfl rfl (by omega) (by omega) (run_l tabOk ?_) | refine wl_sub rfl rfl rfl rfl rfl rfl (by omega) (by omega) (run_l tabOk ?_) | refine wl_cvA tabOk rfl rfl rfl (by simp only [inK]; omega) rfl rfl rfl (run_l tabOk ?_) | refine wl_cvB tabOk rfl rfl rfl rfl rfl rfl (run_l tabOk ?_) | refine wl_rem rfl rfl rfl rfl rfl rfl (by omega) (by omega) (fun r hr hr0 hr1 hr2 => run_l tabOk ?_) | refine wl_quo rfl rfl rfl rfl rfl rfl (by omega) (by omega) (by simp only [inK]; omega) (run_l tabOk ?_) | refine wl_mul rfl rfl rfl rfl rfl rfl (by omega) (by omega) (run_l tabOk ?_) | refine gs_dt (by first | assumption | omega) ?_ | refine gs_df (by first | assumption | omega) ?_ | refine gs_t (by assumption) ?_ | refine gs_f (by assumption) ?_ | refine gs_d (fun hg => ?_) (fun hg => ?_) | refine gs_n (fun hg => ?_) (fun hg => ?_) | refine gs_nb (fun hg => ?_) (fun hg => ?_) | refine gs_b (fun hg => ?_) (fun hg => ?_)) <;> conv => whnf) | refine fin1 rfl rfl ?_))
  have hby := shBy (nxt wh n) (xs.map (shC wh)) (shN wh (decide (¬ k1 = 0)) ys) D1 D2 d1 d2 k2 w8 hsr ⟨by omega, by omega⟩ ht1 ht2
  rw [List.length_map] at hby
  refine wl_C fn27 hby rfl rfl rfl rfl rfl rfl rfl ?_
  rintro _ w9 ⟨gwz, whz, labz, Hz, Bz, D1z, d1z, D2z, d2z, rfl, hAz, hcanz, hLMz, hBa⟩
  refine ⟨_, rfl, run_l tabOk ?_⟩
  conv => whnf
  (repeat' (first | ((first | refine wl_add rfl rfl rfl rfl rfl rfl (by omega) (by omega) (run_l tabOk ?_) | refine wl_sub rfl rfl rfl rfl rfl rfl (by omega) (by omega) (run_l tabOk ?_) | refine wl_cvA tabOk rfl rfl rfl (by simp only [inK]; omega) rfl rfl rfl (run_l tabOk ?_) | refine wl_cvB tabOk rfl rfl rfl rfl rfl rfl (run_l tabOk ?_) | refine wl_rem rfl rfl rfl rfl rfl rfl (by omega) (by omega) (fun r hr hr0 hr1 hr2 => run_l tabOk ?_) | refine wl_quo rfl rfl rfl rfl rfl rfl (by omega) (by omega) (by simp only [inK]; omega) (run_l tabOk ?_) | refine wl_mul rfl rfl rfl rfl rfl rfl (by omega) (by omega) (run_l tabOk ?_) | refine gs_dt (by first | assumption | omega) ?_ | refine gs_df (by first | assumption | omega) ?_ | refine gs_t (by assumption) ?_ | refine gs_f (by assumption) ?_ | refine gs_d (fun hg => ?_) (fun hg => ?_) | refine gs_n (fun hg => ?_) (fun hg => ?_) | refine gs_nb (fun hg => ?_) (fun hg => ?_) | refine gs_b (fun hg => ?_) (fun hg => ?_)) <;> conv => whnf) | refine fin1 rfl rfl ?_))
  refine wl_alloc tabOk rfl rfl rfl rfl rfl rfl ?_
  intro g6z w10 hn7
  refine run_l tabOk ?_
  conv => whnf
  refine wl_Sa tabOk hn7.blk rfl rfl rfl rfl rfl (by simp [Value.oneCell']) rfl rfl ?_
  intro w11 hp8
  have hBb : Below w9.heap.size w9 w11 := hp8.below hn7.below (by have := hn7.at_; omega) (by have := hn7.size; omega)
  have hbtz := hp8.blk
  have hAz := hAz.up hBb
  have hBB := bup hBa hBb
  have hb3 := blk_up hBB hb3
  have hs1 := hs1.up stays_Cell hBB
  have hs2 := hs2.up stays_Con hBB
  clear hp8 hn7 hBa hBb hby r1 r2
  refine run_l tabOk ?_
  conv => whnf
  have hA := hA.up hBB
  have hbt := blk_up hBB hbt
  obtain ⟨hu1, hu2⟩ := hAz.rows
  have hB011 := bup hB08 hBB
  have hW2 := wok_of hsr hIL' hcanz hLMz
  have hsr2 := sh_right hsr hW2
  have hcle2 := nxt_leV whz (nxt wh n)
  have hnl2 := shN_len whz (decide (¬ k2 = 0)) (shN wh (decide (¬ k1 = 0)) ys)
  have hwv : ∀ v, v < n → w11.cell? ((⟨gw, 0, none⟩ : Addr).add (v * 1)) = some (.int .i64 (wh v)) := fun v hv => by
    rw [Nat.mul_one, add_zero]
    exact cell_blk hA.wr (by simpa using fZ_get hv)
  have hwv2 : ∀ v, v < nxt wh n → w11.cell? ((⟨gwz, 0, none⟩ : Addr).add (v * 1)) = some (.int .i64 (whz v)) := fun v hv => by
    rw [Nat.mul_one, add_zero]
    exact cell_blk hAz.wr (by simpa using fZ_get hv)
  (repeat' (first | (refine wl_Lg tabOk hbt rfl rfl rfl rfl rfl rfl rfl (run_l tabOk ?_); conv => whnf) | (refine wl_Lg tabOk hbtz rfl rfl rfl rfl rfl rfl rfl (run_l tabOk ?_); conv => whnf) | (refine wl_Lag tabOk hb3 rfl rfl rfl rfl rfl rfl (run_l tabOk ?_); conv => whnf) | ((first | refine wl_add rfl rfl rfl rfl rfl rfl (by omega) (by omega) (run_l tabOk ?_) | refine wl_sub rfl rfl rfl rfl rfl rfl (by omega) (by omega) (run_l tabOk ?_) | refine wl_cvA tabOk rfl rfl rfl (by simp only [inK]; omega) rfl rfl rfl (run_l tabOk ?_) | refine wl_cvB tabOk rfl rfl rfl rfl rfl rfl (run_l tabOk ?_) | refine wl_rem rfl rfl rfl rfl rfl rfl (by omega) (by omega) (fun r hr hr0 hr1 hr2 => run_l tabOk ?_) | refine wl_quo rfl rfl rfl rfl rfl rfl (by omega) (by omega) (by simp only [inK]; omega) (run_l tabOk ?_) | refine wl_mul rfl rfl rfl rfl rfl rfl (by omega) (by omega) (run_l tabOk ?_) | refine gs_dt (by first | assumption | omega) ?_ | refine gs_df (by first | assumption | omega) ?_ | refine gs_t (by assumption) ?_ | refine gs_f (by assumption) ?_ | refine gs_d (fun hg => ?_) (fun hg => ?_) | refine gs_n (fun hg => ?_) (fun hg => ?_) | refine gs_nb (fun hg => ?_) (fun hg => ?_) | refine gs_b (fun hg => ?_) (fun hg => ?_)) <;> conv => whnf) | refine fin1 rfl rfl ?_))
  refine wl_C fn31 (refLeast n xs ys A1 A2 c1 c2 w11 hs1 hs2 hright) rfl rfl rfl rfl rfl rfl rfl ?_
  rintro _ w12 ⟨M0, Ap, cap, rfl, hIL0, hra, hcap, hB12⟩
  have hM0 := hIL0.unique hIL
  subst hM0
  have hl2 := refLeast (nxt whz (nxt wh n)) ((xs.map (shC wh)).map (shC whz)) (shN whz (decide (¬ k2 = 0)) (shN wh (decide (¬ k1 = 0)) ys)) D1z D2z d1z d2z w12 (hu1.up stays_Cell hB12) (hu2.up stays_Con hB12) hsr2
  rw [List.length_map, List.length_map] at hl2
  have hbtz := blk_up hB12 hbtz
  have hb3 := blk_up hB12 hb3
  refine ⟨_, rfl, run_l tabOk ?_⟩
  conv => whnf
  (repeat' (first | (refine wl_Lag tabOk hbtz rfl rfl rfl rfl rfl rfl (run_l tabOk ?_); conv => whnf) | ((first | refine wl_add rfl rfl rfl rfl rfl rfl (by omega) (by omega) (run_l tabOk ?_) | refine wl_sub rfl rfl rfl rfl rfl rfl (by omega) (by omega) (run_l tabOk ?_) | refine wl_cvA tabOk rfl rfl rfl (by simp only [inK]; omega) rfl rfl rfl (run_l tabOk ?_) | refine wl_cvB tabOk rfl rfl rfl rfl rfl rfl (run_l tabOk ?_) | refine wl_rem rfl rfl rfl rfl rfl rfl (by omega) (by omega) (fun r hr hr0 hr1 hr2 => run_l tabOk ?_) | refine wl_quo rfl rfl rfl rfl rfl rfl (by omega) (by omega) (by simp only [inK]; omega) (run_l tabOk ?_) | refine wl_mul rfl rfl rfl rfl rfl rfl (by omega) (by omega) (run_l tabOk ?_) | refine gs_dt (by first | assumption | omega) ?_ | refine gs_df (by first | assumption | omega) ?_ | refine gs_t (by assumption) ?_ | refine gs_f (by assumption) ?_ | refine gs_d (fun hg => ?_) (fun hg => ?_) | refine gs_n (fun hg => ?_) (fun hg => ?_) | refine gs_nb (fun hg => ?_) (fun hg => ?_) | refine gs_b (fun hg => ?_) (fun hg => ?_)) <;> conv => whnf) | refine fin1 rfl rfl ?_))
  refine wl_C fn31 hl2 rfl rfl rfl rfl rfl rfl rfl ?_
  rintro _ w13 ⟨M2, Aq, caq, rfl, hIL2, hrb, hcaq, hB13⟩
  obtain ⟨cnt, hcn⟩ : ∃ cnt, cnt = nxt wh n := ⟨_, rfl⟩
  obtain ⟨cnt2, hcn2⟩ : ∃ cnt, cnt = nxt whz (nxt wh n) := ⟨_, rfl⟩
  have hsl := fun v (hv : v < n) o => sh_least hright hIL hW hIL' hv o
  have hsl2 := fun v (hv : v < nxt wh n) o => sh_least hsr hIL' hW2 hIL2 hv o
  have hS1 : Shape n xs.length M0 := by simpa using hIL.sh
  have hS2 : Shape cnt2 xs.length M2 := by rw [hcn2]; simpa using hIL2.sh
  have hra := hra.up stays_Ints hB13
  have hb3 := blk_up hB13 hb3
  have hwv : ∀ wk, Below w13.heap.size w13 wk → ∀ v, v < n → wk.cell? ((⟨gw, 0, none⟩ : Addr).add (v * 1)) = some (.int .i64 (wh v)) := fun wk hb v hv => cell_up hb (cell_up (bup hB12 hB13) (hwv v hv))
  have hwv2 : ∀ wk, Below w13.heap.size w13 wk → ∀ v, v < nxt wh n → wk.cell? ((⟨gwz, 0, none⟩ : Addr).add (v * 1)) = some (.int .i64 (whz v)) := fun wk hb v hv => cell_up hb (cell_up (bup hB12 hB13) (hwv2 v hv))
  have hrng := fun v (hv : v < n) => hW.rng v hv
  have hrng2 := fun v (hv : v < nxt wh n) => hW2.rng v hv
  rw [← hcn2] at hrng2 ⊢
  rw [← hcn] at hrng hrng2 hsl2 hwv2 ⊢
  have hBw := bup hB011 (bup hB12 hB13)
  clear hl2 hbt hbtz hIL hIL' hIL2 hIL0 hW hW2 hsr hsr2 hcan hLM hcanz hLMz hs1 hs2 ht1 ht2 hu1 hu2 hB12 hB13 hB08 hB05 hB011 hA hAz hBB
  refine ⟨_, rfl, run_l tabOk ?_⟩
  conv => whnf
  (repeat' (first | ((first | refine wl_add rfl rfl rfl rfl rfl rfl (by omega) (by omega) (run_l tabOk ?_) | refine wl_sub rfl rfl rfl rfl rfl rfl (by omega) (by omega) (run_l tabOk ?_) | refine wl_cvA tabOk rfl rfl rfl (by simp only [inK]; omega) rfl rfl rfl (run_l tabOk ?_) | refine wl_cvB tabOk rfl rfl rfl rfl rfl rfl (run_l tabOk ?_) | refine wl_rem rfl rfl rfl rfl rfl rfl (by omega) (by omega) (fun r hr hr0 hr1 hr2 => run_l tabOk ?_) | refine wl_quo rfl rfl rfl rfl rfl rfl (by omega) (by omega) (by simp only [inK]; omega) (run_l tabOk ?_) | refine wl_mul rfl rfl rfl rfl rfl rfl (by omega) (by omega) (run_l tabOk ?_) | refine gs_dt (by first | assumption | omega) ?_ | refine gs_df (by first | assumption | omega) ?_ | refine gs_t (by assumption) ?_ | refine gs_f (by assumption) ?_ | refine gs_d (fun hg => ?_) (fun hg => ?_) | refine gs_n (fun hg => ?_) (fun hg => ?_) | refine gs_nb (fun hg => ?_) (fun hg => ?_) | refine gs_b (fun hg => ?_) (fun hg => ?_)) <;> conv => whnf) | refine fin1 rfl rfl ?_))
  refine lp_loop tabOk (X := Nat) (fun v => [(7, .pointer (some ⟨g3, 0, none⟩)), (9, .slice (some ⟨gw, 0, none⟩) n n), (12, .slice (some ⟨gwz, 0, none⟩) cnt cnt), (14, .slice Ap n cap), (15, .slice Aq cnt2 caq), (16, .int .i64 (v : Int))]) (fun v wi => v ≤ n ∧ Below w13.heap.size w13 wi) (fun v => n - v) 0 ⟨rfl, rfl, rfl, rfl, rfl, rfl, trivial⟩ ⟨by omega, Below.refl _ _⟩ ?_
  rintro v G2 wi ⟨hv, hBi⟩
  have hb3i := blk_up hBi hb3
  by_cases hvn : v < n
  · have cw := hwv wi hBi v hvn
    have hrv := hrng v hvn
    have hsv := hsl v hvn
    obtain ⟨x, ad1, B1, e1, ⟨hx⟩, hA1, hcx, _, ⟨hRx⟩⟩ := rowsE (hra.up stays_Ints hBi) v (by rw [ptsLen hS1]; exact hvn)
    subst hA1
    rw [pts_at hS1 hvn] at hx
    have hsm : ∀ (z : List Int) (Bz : Option Addr) (ez : Nat), z = x → RI wi Bz z → ∀ m : Nat, m = z.length → Calls Try.prog 29 #[.slice B1 x.length e1, .slice Bz m ez] wi fun e w' => e = .returned (.bool true) ∧ Below wi.heap.size wi w' := fun z Bz ez hz hR m hmz => by
      subst hz
      subst hmz
      refine (refSameInts z z B1 Bz e1 ez wi hRx hR).mono ?_
      rintro e w' ⟨h1, h2⟩
      exact ⟨by rw [h1, sameI_refl], h2⟩
    have hnilc : x = [] → Calls Try.prog 29 #[.slice B1 x.length e1, .slice none 0 0] wi fun e w' => e = .returned (.bool true) ∧ Below wi.heap.size wi w' := fun hx0 => hsm [] none 0 hx0.symm (RowR.nil ..) 0 rfl
    by_cases h0 : wh v < 0
    · have hx0 : x = [] := by
        rw [← hx]
        refine rowPts_nil fun j hj => ?_
        have hj : mg M0 v j = true := hj
        have := (hsv j).1 hj
        omega
      conv => whnf
      (repeat' (first | (refine wl_Lg tabOk hb3i rfl rfl rfl rfl rfl rfl rfl (run_l tabOk ?_); conv => whnf) | (refine wl_L tabOk rfl rfl rfl rfl rfl rfl cw (run_l tabOk ?_); conv => whnf) | (refine wl_L tabOk rfl rfl rfl rfl rfl rfl hcx (run_l tabOk ?_); conv => whnf) | (refine wl_Xn tabOk 3 1 rfl rfl rfl rfl rfl rfl rfl (by omega) (run_l tabOk ?_); conv => whnf) | (refine wl_Xn tabOk 31 1 rfl rfl rfl rfl rfl rfl rfl (by omega) (run_l tabOk ?_); conv => whnf) | ((first | refine wl_add rfl rfl rfl rfl rfl rfl (by omega) (by omega) (run_l tabOk ?_) | refine wl_sub rfl rfl rfl rfl rfl rfl (by omega) (by omega) (run_l tabOk ?_) | refine wl_cvA tabOk rfl rfl rfl (by simp only [inK]; omega) rfl rfl rfl (run_l tabOk ?_) | refine wl_cvB tabOk rfl rfl rfl rfl rfl rfl (run_l tabOk ?_) | refine wl_rem rfl rfl rfl rfl rfl rfl (by omega) (by omega) (fun r hr hr0 hr1 hr2 => run_l tabOk ?_) | refine wl_quo rfl rfl rfl rfl rfl rfl (by omega) (by omega) (by simp only [inK]; omega) (run_l tabOk ?_) | refine wl_mul rfl rfl rfl rfl rfl rfl (by omega) (by omega) (run_l tabOk ?_) | refine gs_dt (by first | assumption | omega) ?_ | refine gs_df (by first | assumption | omega) ?_ | refine gs_t (by assumption) ?_ | refine gs_f (by assumption) ?_ | refine gs_d (fun hg => ?_) (fun hg => ?_) | refine gs_n (fun hg => ?_) (fun hg => ?_) | refine gs_nb (fun hg => ?_) (fun hg => ?_) | refine gs_b (fun hg => ?_) (fun hg => ?_)) <;> conv => whnf) | refine fin1 rfl rfl ?_))
      refine wl_C fn29 (hnilc hx0) rfl rfl rfl rfl rfl rfl rfl ?_
      rintro _ w14 ⟨rfl, hB14⟩
      refine ⟨_, rfl, run_l tabOk ?_⟩
      conv => whnf
      (repeat' (first | ((first | refine wl_add rfl rfl rfl rfl rfl rfl (by omega) (by omega) (run_l tabOk ?_) | refine wl_sub rfl rfl rfl rfl rfl rfl (by omega) (by omega) (run_l tabOk ?_) | refine wl_cvA tabOk rfl rfl rfl (by simp only [inK]; omega) rfl rfl rfl (run_l tabOk ?_) | refine wl_cvB tabOk rfl rfl rfl rfl rfl rfl (run_l tabOk ?_) | refine wl_rem rfl rfl rfl rfl rfl rfl (by omega) (by omega) (fun r hr hr0 hr1 hr2 => run_l tabOk ?_) | refine wl_quo rfl rfl rfl rfl rfl rfl (by omega) (by omega) (by simp only [inK]; omega) (run_l tabOk ?_) | refine wl_mul rfl rfl rfl rfl rfl rfl (by omega) (by omega) (run_l tabOk ?_) | refine gs_dt (by first | assumption | omega) ?_ | refine gs_df (by first | assumption | omega) ?_ | refine gs_t (by assumption) ?_ | refine gs_f (by assumption) ?_ | refine gs_d (fun hg => ?_) (fun hg => ?_) | refine gs_n (fun hg => ?_) (fun hg => ?_) | refine gs_nb (fun hg => ?_) (fun hg => ?_) | refine gs_b (fun hg => ?_) (fun hg => ?_)) <;> conv => whnf) | refine fin1 rfl rfl ?_))
      exact ⟨v + 1, ⟨rfl, rfl, rfl, rfl, rfl, rfl, trivial⟩, ⟨by omega, bup hBi hB14⟩, by omega⟩
    obtain ⟨q, hq⟩ := Int.eq_ofNat_of_zero_le (show 0 ≤ wh v by omega)
    have hqc : q < cnt := by omega
    rw [hq] at cw
    have cw2 := hwv2 wi hBi q hqc
    have hrq := hrng2 q hqc
    have hsq := hsl2 q hqc
    by_cases h1 : whz q < 0
    · have hx0 : x = [] := by
        rw [← hx]
        refine rowPts_nil fun j hj => ?_
        have hj : mg M0 v j = true := hj
        have h3 := ((hsv j).1 hj).2
        rw [hq, Int.toNat_natCast] at h3
        have := (hsq j).1 h3
        omega
      conv => whnf
      (repeat' (first | (refine wl_Lg tabOk hb3i rfl rfl rfl rfl rfl rfl rfl (run_l tabOk ?_); conv => whnf) | (refine wl_L tabOk rfl rfl rfl rfl rfl rfl cw (run_l tabOk ?_); conv => whnf) | (refine wl_L tabOk rfl rfl rfl rfl rfl rfl cw2 (run_l tabOk ?_); conv => whnf) | (refine wl_L tabOk rfl rfl rfl rfl rfl rfl hcx (run_l tabOk ?_); conv => whnf) | (refine wl_Xn tabOk 3 1 rfl rfl rfl rfl rfl rfl rfl (by omega) (run_l tabOk ?_); conv => whnf) | (refine wl_Xn tabOk 31 1 rfl rfl rfl rfl rfl rfl rfl (by omega) (run_l tabOk ?_); conv => whnf) | ((first | refine wl_add rfl rfl rfl rfl rfl rfl (by omega) (by omega) (run_l tabOk ?_) | refine wl_sub rfl rfl rfl rfl rfl rfl (by omega) (by omega) (run_l tabOk ?_) | refine wl_cvA tabOk rfl rfl rfl (by simp only [inK]; omega) rfl rfl rfl (run_l tabOk ?_) | refine wl_cvB tabOk rfl rfl rfl rfl rfl rfl (run_l tabOk ?_) | refine wl_rem rfl rfl rfl rfl rfl rfl (by omega) (by omega) (fun r hr hr0 hr1 hr2 => run_l tabOk ?_) | refine wl_quo rfl rfl rfl rfl rfl rfl (by omega) (by omega) (by simp only [inK]; omega) (run_l tabOk ?_) | refine wl_mul rfl rfl rfl rfl rfl rfl (by omega) (by omega) (run_l tabOk ?_) | refine gs_dt (by first | assumption | omega) ?_ | refine gs_df (by first | assumption | omega) ?_ | refine gs_t (by assumption) ?_ | refine gs_f (by assumption) ?_ | refine gs_d (fun hg => ?_) (fun hg => ?_) | refine gs_n (fun hg => ?_) (fun hg => ?_) | refine gs_nb (fun hg => ?_) (fun hg => ?_) | refine gs_b (fun hg => ?_) (fun hg => ?_)) <;> conv => whnf) | refine fin1 rfl rfl ?_))
      refine wl_C fn29 (hnilc hx0) rfl rfl rfl rfl rfl rfl rfl ?_
      rintro _ w14 ⟨rfl, hB14⟩
      refine ⟨_, rfl, run_l tabOk ?_⟩
      conv => whnf
      (repeat' (first | ((first | refine wl_add rfl rfl rfl rfl rfl rfl (by omega) (by omega) (run_l tabOk ?_) | refine wl_sub rfl rfl rfl rfl rfl rfl (by omega) (by omega) (run_l tabOk ?_) | refine wl_cvA tabOk rfl rfl rfl (by simp only [inK]; omega) rfl rfl rfl (run_l tabOk ?_) | refine wl_cvB tabOk rfl rfl rfl rfl rfl rfl (run_l tabOk ?_) | refine wl_rem rfl rfl rfl rfl rfl rfl (by omega) (by omega) (fun r hr hr0 hr1 hr2 => run_l tabOk ?_) | refine wl_quo rfl rfl rfl rfl rfl rfl (by omega) (by omega) (by simp only [inK]; omega) (run_l tabOk ?_) | refine wl_mul rfl rfl rfl rfl rfl rfl (by omega) (by omega) (run_l tabOk ?_) | refine gs_dt (by first | assumption | omega) ?_ | refine gs_df (by first | assumption | omega) ?_ | refine gs_t (by assumption) ?_ | refine gs_f (by assumption) ?_ | refine gs_d (fun hg => ?_) (fun hg => ?_) | refine gs_n (fun hg => ?_) (fun hg => ?_) | refine gs_nb (fun hg => ?_) (fun hg => ?_) | refine gs_b (fun hg => ?_) (fun hg => ?_)) <;> conv => whnf) | refine fin1 rfl rfl ?_))
      exact ⟨v + 1, ⟨rfl, rfl, rfl, rfl, rfl, rfl, trivial⟩, ⟨by omega, bup hBi hB14⟩, by omega⟩
    obtain ⟨p, hp⟩ := Int.eq_ofNat_of_zero_le (show 0 ≤ whz q by omega)
    have hpc : p < cnt2 := by omega
    rw [hp] at cw2
    obtain ⟨y, ad2, B2, e2, ⟨hy⟩, hA2, hcy, _, ⟨hRy⟩⟩ := rowsE (hrb.up stays_Ints hBi) p (by rw [ptsLen hS2]; exact hpc)
    subst hA2
    rw [pts_at hS2 hpc] at hy
    have hxy : y = x := by
      rw [← hx, ← hy, mg_row2 hS1 hS2 hvn hpc fun o => ?_]
      have h3 := hsv o
      have h4 := hsq o
      rw [hq, Int.toNat_natCast] at h3
      rw [hp, Int.toNat_natCast] at h4
      exact h3.trans ⟨fun h => (h4.1 h.2).2, fun h => ⟨by omega, h4.2 ⟨by omega, h⟩⟩⟩
    conv => whnf
    (repeat' (first | (refine wl_Lg tabOk hb3i rfl rfl rfl rfl rfl rfl rfl (run_l tabOk ?_); conv => whnf) | (refine wl_L tabOk rfl rfl rfl rfl rfl rfl cw (run_l tabOk ?_); conv => whnf) | (refine wl_L tabOk rfl rfl rfl rfl rfl rfl cw2 (run_l tabOk ?_); conv => whnf) | (refine wl_L tabOk rfl rfl rfl rfl rfl rfl hcx (run_l tabOk ?_); conv => whnf) | (refine wl_L tabOk rfl rfl rfl rfl rfl rfl hcy (run_l tabOk ?_); conv => whnf) | (refine wl_Xn tabOk 3 1 rfl rfl rfl rfl rfl rfl rfl (by omega) (run_l tabOk ?_); conv => whnf) | (refine wl_Xn tabOk 31 1 rfl rfl rfl rfl rfl rfl rfl (by omega) (run_l tabOk ?_); conv => whnf) | ((first | refine wl_add rfl rfl rfl rfl rfl rfl (by omega) (by omega) (run_l tabOk ?_) | refine wl_sub rfl rfl rfl rfl rfl rfl (by omega) (by omega) (run_l tabOk ?_) | refine wl_cvA tabOk rfl rfl rfl (by simp only [inK]; omega) rfl rfl rfl (run_l tabOk ?_) | refine wl_cvB tabOk rfl rfl rfl rfl rfl rfl (run_l tabOk ?_) | refine wl_rem rfl rfl rfl rfl rfl rfl (by omega) (by omega) (fun r hr hr0 hr1 hr2 => run_l tabOk ?_) | refine wl_quo rfl rfl rfl rfl rfl rfl (by omega) (by omega) (by simp only [inK]; omega) (run_l tabOk ?_) | refine wl_mul rfl rfl rfl rfl rfl rfl (by omega) (by omega) (run_l tabOk ?_) | refine gs_dt (by first | assumption | omega) ?_ | refine gs_df (by first | assumption | omega) ?_ | refine gs_t (by assumption) ?_ | refine gs_f (by assumption) ?_ | refine gs_d (fun hg => ?_) (fun hg => ?_) | refine gs_n (fun hg => ?_) (fun hg => ?_) | refine gs_nb (fun hg => ?_) (fun hg => ?_) | refine gs_b (fun hg => ?_) (fun hg => ?_)) <;> conv => whnf) | refine fin1 rfl rfl ?_))
    refine wl_C fn29 (hsm y B2 e2 hxy hRy y.length rfl) rfl rfl rfl rfl rfl rfl rfl ?_
    rintro _ w14 ⟨rfl, hB14⟩
    refine ⟨_, rfl, run_l tabOk ?_⟩
    conv => whnf
    (repeat' (first | ((first | refine wl_add rfl rfl rfl rfl rfl rfl (by omega) (by omega) (run_l tabOk ?_) | refine wl_sub rfl rfl rfl rfl rfl rfl (by omega) (by omega) (run_l tabOk ?_) | refine wl_cvA tabOk rfl rfl rfl (by simp only [inK]; omega) rfl rfl rfl (run_l tabOk ?_) | refine wl_cvB tabOk rfl rfl rfl rfl rfl rfl (run_l tabOk ?_) | refine wl_rem rfl rfl rfl rfl rfl rfl (by omega) (by omega) (fun r hr hr0 hr1 hr2 => run_l tabOk ?_) | refine wl_quo rfl rfl rfl rfl rfl rfl (by omega) (by omega) (by simp only [inK]; omega) (run_l tabOk ?_) | refine wl_mul rfl rfl rfl rfl rfl rfl (by omega) (by omega) (run_l tabOk ?_) | refine gs_dt (by first | assumption | omega) ?_ | refine gs_df (by first | assumption | omega) ?_ | refine gs_t (by assumption) ?_ | refine gs_f (by assumption) ?_ | refine gs_d (fun hg => ?_) (fun hg => ?_) | refine gs_n (fun hg => ?_) (fun hg => ?_) | refine gs_nb (fun hg => ?_) (fun hg => ?_) | refine gs_b (fun hg => ?_) (fun hg => ?_)) <;> conv => whnf) | refine fin1 rfl rfl ?_))
    exact ⟨v + 1, ⟨rfl, rfl, rfl, rfl, rfl, rfl, trivial⟩, ⟨by omega, bup hBi hB14⟩, by omega⟩
  · conv => whnf
    (repeat' (first | (refine wl_Lg tabOk hb3i rfl rfl rfl rfl rfl rfl rfl (run_l tabOk ?_); conv => whnf) | ((first | refine wl_add rfl rfl rfl rfl rfl rfl (by omega) (by omega) (run_l tabOk ?_) | refine wl_sub rfl rfl rfl rfl rfl rfl (by omega) (by omega) (run_l tabOk ?_) | refine wl_cvA tabOk rfl rfl rfl (by simp only [inK]; omega) rfl rfl rfl (run_l tabOk ?_) | refine wl_cvB tabOk rfl rfl rfl rfl rfl rfl (run_l tabOk ?_) | refine wl_rem rfl rfl rfl rfl rfl rfl (by omega) (by omega) (fun r hr hr0 hr1 hr2 => run_l tabOk ?_) | refine wl_quo rfl rfl rfl rfl rfl rfl (by omega) (by omega) (by simp only [inK]; omega) (run_l tabOk ?_) | refine wl_mul rfl rfl rfl rfl rfl rfl (by omega) (by omega) (run_l tabOk ?_) | refine gs_dt (by first | assumption | omega) ?_ | refine gs_df (by first | assumption | omega) ?_ | refine gs_t (by assumption) ?_ | refine gs_f (by assumption) ?_ | refine gs_d (fun hg => ?_) (fun hg => ?_) | refine gs_n (fun hg => ?_) (fun hg => ?_) | refine gs_nb (fun hg => ?_) (fun hg => ?_) | refine gs_b (fun hg => ?_) (fun hg => ?_)) <;> conv => whnf) | refine fin1 rfl rfl ?_))
    exact ⟨rfl, bup hBw hBi⟩
end Go.Proofs.Ytjggjhgbobmkhaa
