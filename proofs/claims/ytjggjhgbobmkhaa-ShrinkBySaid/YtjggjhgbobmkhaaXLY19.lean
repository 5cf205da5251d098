/- The walk of ShrinkBy. -/
import Derived.Test.YtjggjhgbobmkhaaC21
import Derived.Test.YtjggjhgbobmkhaaC22
namespace Go.Proofs.Ytjggjhgbobmkhaa
open Go.RowKit
set_option linter.unusedVariables false
set_option linter.unusedSimpArgs false
set_option maxRecDepth 100000
/-- Labels that are told twice are alike. -/
theorem labm_one {n : Nat} {xs : List Cell} {ys : List Con} {mode : Int} {l1 l2 : Nat → Int} (hr : rightB ⟨n, xs, ys⟩ = true) (h1 : LabM n xs ys mode l1) (h2 : LabM n xs ys mode l2) :
    (∀ v, v < n → -1 ≤ l1 v) ∧ (∀ v, v < n → (l1 v = -1 ↔ l2 v = -1)) ∧ ∀ v u, v < n → u < n → (l1 v = l1 u ↔ l2 v = l2 u) := by
  have hG : GOk n (gInto n xs ys) (gBases n xs ys) (gLoose n xs ys) := gok hr
  have hni : (gInto n xs ys).length = 2 * n := hG.ni
  by_cases hm1 : mode = 1
  · obtain ⟨kn, of, hK, e1⟩ := h1.ovs hm1
    obtain ⟨kn2, of2, hK2, e2⟩ := h2.ovs hm1
    refine ⟨fun v hv => ?_, fun v hv => ?_, fun v u hv hu => ?_⟩
    · rw [e1 v hv]
      exact ((labN_ok hG hK kn.length (Nat.le_refl _)).lab _ (hK.at_ v (by omega)).1).1
    · rw [e1 v hv, e2 v hv]
      exact ((lch_of hG hK).t1 v (by omega)).trans ((lch_of hG hK2).t1 v (by omega)).symm
    · rw [e1 v hv, e2 v hv, e1 u hu, e2 u hu]
      exact lch_same hG hK (lch_of hG hK) (lch_of hG hK2) v u (by omega) (by omega)
  by_cases hm2 : mode = 2
  · have c1 := h1.hu hm2
    have c2 := h2.hu hm2
    exact ⟨fun v hv => (c1.le v hv).1, fun v hv => (c1.none v hv).trans (c2.none v hv).symm, fun v u hv hu => (c1.same v u hv hu).trans (c2.same v u hv hu).symm⟩
  · have e1 := h1.plain hm1 hm2
    have e2 := h2.plain hm1 hm2
    refine ⟨fun v hv => ?_, fun v hv => ?_, fun v u hv hu => ?_⟩
    · rw [e1 v hv]; omega
    · rw [e1 v hv, e2 v hv]
    · rw [e1 v hv, e2 v hv, e1 u hu, e2 u hu]
theorem where_one {n : Nat} {xs : List Cell} {ys : List Con} {mode : Int} {l1 l2 wh : Nat → Int} (hr : rightB ⟨n, xs, ys⟩ = true) (h1 : LabM n xs ys mode l1) (h2 : LabM n xs ys mode l2) (hc : Canon n wh (fun v u => klF l2 v = klF l2 u) (fun v => l2 v < 0)) :
    (∀ v, v < n → (wh v < 0 ↔ l1 v < 0)) ∧ ∀ v u, v < n → u < n → (wh v = wh u ↔ l1 v = l1 u) := by
  obtain ⟨g1, z, s⟩ := labm_one hr h1 h2
  obtain ⟨g2, _, _⟩ := labm_one hr h2 h1
  have kl : ∀ v, v < n → klF l2 v = l2 v := fun v hv => by
    have := g2 v hv
    unfold klF
    split <;> omega
  refine ⟨fun v hv => ?_, fun v u hv hu => ?_⟩
  · have a := hc.none v hv
    have b := hc.le v hv
    have c := g1 v hv
    have d := g2 v hv
    have e := z v hv
    constructor
    · intro h
      have h3 := a.1 (by omega)
      have := e.2 (by omega)
      omega
    · intro h
      have h3 := e.1 (by omega)
      have := a.2 (by omega)
      omega
  · rw [hc.same v u hv hu, kl v hv, kl u hu]
    exact (s v u hv hu).symm
theorem emptyC_cases {y : Con} (hk : y.k = 1 → 0 ≤ y.b) : (y.b < 0 ∧ emptyC y = true) ∨ (¬ y.b < 0 ∧ ¬ y.k = 5 ∧ y.a < 0 ∧ emptyC y = true) ∨ (¬ y.b < 0 ∧ ¬ y.k = 5 ∧ ¬ y.a < 0 ∧ y.k = 2 ∧ y.a = y.b ∧ emptyC y = true) ∨
    (¬ y.b < 0 ∧ ¬ y.k = 5 ∧ ¬ y.a < 0 ∧ y.k = 2 ∧ ¬ y.a = y.b ∧ emptyC y = false) ∨ (¬ y.b < 0 ∧ ¬ y.k = 5 ∧ ¬ y.a < 0 ∧ ¬ y.k = 2 ∧ emptyC y = false) ∨ (¬ y.b < 0 ∧ y.k = 5 ∧ ¬ y.k = 2 ∧ emptyC y = false) := by
  unfold emptyC
  by_cases h1 : y.b < 0
  · refine .inl ⟨h1, ?_⟩
    rw [if_neg fun e => by have := hk e; omega]
    simp [h1]
  by_cases h5 : y.k = 5
  · exact .inr (.inr (.inr (.inr (.inr ⟨h1, h5, by omega, by rw [if_neg (by omega), if_pos h5]; simp; omega⟩))))
  by_cases ha : y.a < 0
  · refine .inr (.inl ⟨h1, h5, ha, ?_⟩)
    split <;> simp [h5, ha]
  by_cases h2 : y.k = 2
  · by_cases e : y.a = y.b
    · exact .inr (.inr (.inl ⟨h1, h5, ha, h2, e, by simp [h2, e]⟩))
    · exact .inr (.inr (.inr (.inl ⟨h1, h5, ha, h2, e, by simp [h2, e, ha, h1]⟩)))
  · refine .inr (.inr (.inr (.inr (.inl ⟨h1, h5, ha, h2, ?_⟩))))
    simp [h5, h2, ha, h1]
theorem inC_next {out : List Con} {y : Con} {k : Nat} (hk : k < out.length) : inC (out.take (k + 1)) y = (inC (out.take k) y || eqC y out[k]!) := by
  unfold inC
  rw [List.take_add_one, List.getElem?_eq_getElem hk, List.any_append, getElem!_pos out k hk]
  simp
theorem sameL_iff {f : Int → Int → Bool} (hf : ∀ x y, f x y = true ↔ x = y) : ∀ {xs ys : List Int}, sameL f xs ys = true ↔ xs = ys := by
  intro xs ys
  constructor
  · intro h
    have hl : xs.length = ys.length := Classical.byContradiction fun e => by rw [sameL_len e] at h; cases h
    refine List.ext_getElem hl fun i h1 h2 => ?_
    have : f xs[i]! ys[i]! = true := by
      cases hq : f xs[i]! ys[i]! with
      | true => rfl
      | false => rw [sameL_at h1 hq] at h; cases h
    have := (hf _ _).1 this
    rwa [getElem!_pos xs i h1, getElem!_pos ys i h2] at this
  · rintro rfl
    exact sameL_refl fun x => (hf x x).2 rfl
theorem sameI_iff {xs ys : List Int} : sameI xs ys = true ↔ xs = ys := sameL_iff fun x y => by simp [ieq]
/-- There is a least map. -/
theorem exists_least {n : Nat} {xs : List Cell} {ys : List Con} (hr : rightB ⟨n, xs, ys⟩ = true) : ∃ M, IsLeast ⟨(n : Int), xs, ys⟩ M := by
  have hP := right_conP hr
  have hX := right_cellP hr
  have dn : ∀ v o, mg (mkM n xs.length fun v o => ∀ N, ClosedM ⟨(n : Int), xs, ys⟩ N → mg N v o = true) v o = true → o < xs.length ∧ ∀ N, ClosedM ⟨(n : Int), xs, ys⟩ N → mg N v o = true := fun v o h => ⟨(mg_mk.1 h).2.1, (mg_mk.1 h).2.2⟩
  refine ⟨mkM n xs.length fun v o => ∀ N, ClosedM ⟨(n : Int), xs, ys⟩ N → mg N v o = true, ?_, ?_, fun N hN v o hm => (mg_mk.1 hm).2.2 N hN⟩
  · refine ⟨by simp [mkM], fun i hi => ?_⟩
    rw [getElem!_pos _ i (by simpa [mkM] using hi)]
    simp [mkM]
  · refine closed_con.2 fun c hcm => ?_
    obtain ⟨hk, ha, hb, hl, hargs, h5⟩ := hP c hcm
    refine ⟨fun k1 => ?_, fun k2 q1 q2 o ho => ?_, fun k1 k2 p hp hs => ?_⟩
    · have := (h5 (by omega)).1
      have := hb.2.1 k1
      exact mg_mk.2 ⟨by omega, by omega, fun N hN => (closed_con.1 hN c hcm).1 k1⟩
    · obtain ⟨h1, h2⟩ := dn _ _ ho
      exact mg_mk.2 ⟨by omega, h1, fun N hN => (closed_con.1 hN c hcm).2.1 k2 q1 q2 o (h2 N hN)⟩
    · obtain ⟨_, hsN⟩ := dn _ _ hs
      have hxv := (hX _ (xs_mem hp)).1
      have hr3 := fun N hN => (closed_con.1 hN c hcm).2.2 k1 k2 p hp (hsN N hN)
      refine ⟨fun k3 hfn q1 q2 o ho => ?_, fun k4 hfn q1 q2 o ho => ?_, fun k5 hfn => ⟨fun q1 q2 o ho => ?_, fun k hk1 hk2 q1 q2 o ho => ?_⟩⟩
      · obtain ⟨h1, h2⟩ := dn _ _ ho
        exact mg_mk.2 ⟨by omega, h1, fun N hN => (hr3 N hN).1 k3 hfn q1 q2 o (h2 N hN)⟩
      · obtain ⟨h1, h2⟩ := dn _ _ ho
        exact mg_mk.2 ⟨by omega, h1, fun N hN => (hr3 N hN).2.1 k4 hfn q1 q2 o (h2 N hN)⟩
      · obtain ⟨h1, h2⟩ := dn _ _ ho
        exact mg_mk.2 ⟨by omega, h1, fun N hN => ((hr3 N hN).2.2 k5 hfn).1 q1 q2 o (h2 N hN)⟩
      · obtain ⟨h1, h2⟩ := dn _ _ ho
        have := (hX _ (xs_mem hp)).2.2 _ (arg_mem hk1)
        exact mg_mk.2 ⟨by omega, h1, fun N hN => ((hr3 N hN).2.2 k5 hfn).2 k hk1 hk2 q1 q2 o (h2 N hN)⟩
set_option maxHeartbeats 16000000 in
theorem lawShrinkBy (d : Draft) (A : Option Addr) (c : Nat) (mode : Int) (w : World) (h : RActs w A d.acts) (hk : (0 ≤ d.vars ∧ d.vars ≤ 255) ∧ 0 ≤ d.cells ∧ d.cells ≤ 255) (hm : 0 ≤ mode ∧ mode ≤ 255) :
    Calls Try.prog 9 #[.agg #[.int .u8 d.vars, .int .u8 d.cells, .slice A d.acts.length c], .int .u8 mode] w fun e w' => e = .returned (.bool true) ∧ Below w.heap.size w w' := by
  refine enterR (args := [.agg #[.int .u8 d.vars, .int .u8 d.cells, .slice A d.acts.length c], .int .u8 mode]) tabOk Try.func9 rfl Try.ntmps9 rfl ?_; conv => whnf
  refine wl_box rfl rfl rfl rfl rfl rfl ?_
  intro g1 w1 hn1
  refine run_l tabOk ?_
  conv => whnf
  refine wl_C fn25 (awake19 _) rfl rfl rfl rfl rfl rfl rfl ?_
  rintro _ w2 ⟨rfl, hB2⟩
  have hb := blk_up hB2 hn1.blk
  have hB := bup hn1.below hB2
  refine ⟨_, rfl, run_l tabOk ?_⟩
  conv => whnf
  by_cases hbig : 40 < d.acts.length
  · (repeat' (first | (refine wl_Lg tabOk hb rfl rfl rfl rfl rfl rfl rfl (run_l tabOk ?_); conv => whnf) | ((first | refine wl_add rfl rfl rfl rfl rfl rfl (by omega) (by omega) (run_l tabOk ?_) | refine wl_sub rfl rfl rfl rfl rfl rfl (by omega) (by omega) (run_l tabOk ?_) | refine gs_dt (by first | assumption | omega) ?_ | refine gs_df (by first | assumption | omega) ?_ | refine gs_t (by assumption) ?_ | refine gs_f (by assumption) ?_ | refine gs_d (fun hg => ?_) (fun hg => ?_) | refine gs_n (fun hg => ?_) (fun hg => ?_) | refine gs_nb (fun hg => ?_) (fun hg => ?_) | refine gs_b (fun hg => ?_) (fun hg => ?_)) <;> conv => whnf) | refine fin1 rfl rfl ?_))
    refine wl_C fn25 (awake19 _) rfl rfl rfl rfl rfl rfl rfl ?_
    rintro _ w3 ⟨rfl, hB3⟩
    refine ⟨_, rfl, run_l tabOk ?_⟩
    conv => whnf
    (repeat' (first | ((first | refine wl_add rfl rfl rfl rfl rfl rfl (by omega) (by omega) (run_l tabOk ?_) | refine wl_sub rfl rfl rfl rfl rfl rfl (by omega) (by omega) (run_l tabOk ?_) | refine gs_dt (by first | assumption | omega) ?_ | refine gs_df (by first | assumption | omega) ?_ | refine gs_t (by assumption) ?_ | refine gs_f (by assumption) ?_ | refine gs_d (fun hg => ?_) (fun hg => ?_) | refine gs_n (fun hg => ?_) (fun hg => ?_) | refine gs_nb (fun hg => ?_) (fun hg => ?_) | refine gs_b (fun hg => ?_) (fun hg => ?_)) <;> conv => whnf) | refine fin1 rfl rfl ?_))
    exact ⟨rfl, bup hB hB3⟩
  (repeat' (first | (refine wl_Lg tabOk hb rfl rfl rfl rfl rfl rfl rfl (run_l tabOk ?_); conv => whnf) | (refine wl_Lag tabOk hb rfl rfl rfl rfl rfl rfl (run_l tabOk ?_); conv => whnf) | (refine wl_rem rfl rfl rfl rfl rfl rfl (by omega) (by omega) (fun r r1 r2 r3 r4 => run_l tabOk ?_); (conv => whnf)) | ((first | refine wl_add rfl rfl rfl rfl rfl rfl (by omega) (by omega) (run_l tabOk ?_) | refine wl_sub rfl rfl rfl rfl rfl rfl (by omega) (by omega) (run_l tabOk ?_) | refine gs_dt (by first | assumption | omega) ?_ | refine gs_df (by first | assumption | omega) ?_ | refine gs_t (by assumption) ?_ | refine gs_f (by assumption) ?_ | refine gs_d (fun hg => ?_) (fun hg => ?_) | refine gs_n (fun hg => ?_) (fun hg => ?_) | refine gs_nb (fun hg => ?_) (fun hg => ?_) | refine gs_b (fun hg => ?_) (fun hg => ?_)) <;> conv => whnf) | refine fin1 rfl rfl ?_))
  refine wl_C fn15 (refMake d A c w2 (h.up stays_Act hB) hk.1 hk.2) rfl rfl rfl rfl rfl rfl rfl ?_
  rintro _ w3 ⟨s, va, vb', bs, cs, rfl, hB3, hM⟩
  have hright := hM.right
  have hvars := hM.vars
  obtain ⟨A1, c1, rfl, _, hr1⟩ := hM.cells.row
  obtain ⟨A2, c2, rfl, _, hr2⟩ := hM.cons.row
  have hB03 := bup hB hB3
  clear hM hb hB2 hn1
  obtain ⟨vars, xs, ys⟩ := s
  simp only at hright hvars hr1 hr2
  obtain ⟨n, rfl⟩ : ∃ n : Nat, vars = n := ⟨vars.toNat, by omega⟩
  have hn12 : n ≤ 12 := by omega
  refine ⟨_, rfl, run_l tabOk ?_⟩
  conv => whnf
  refine wl_alloc tabOk rfl rfl rfl rfl rfl rfl ?_
  intro g3 w4 hn4
  refine run_l tabOk ?_
  conv => whnf
  refine wl_Sa tabOk hn4.blk rfl rfl rfl rfl rfl (by simp [Value.oneCell']) rfl rfl ?_
  intro w5 hp5
  have hB5 : Below w3.heap.size w3 w5 := hp5.below hn4.below (by have := hn4.at_; omega) (by have := hn4.size; omega)
  have hb3 : w5.heap[g3]? = some (.cells #[.int .i64 n, .slice A1 xs.length c1, .slice A2 ys.length c2] 29 (0, 0)) := hp5.blk
  have hs1 := hr1.up stays_Cell hB5
  have hs2 := hr2.up stays_Con hB5
  have hB05 := bup hB03 hB5
  have hnn := right_few hright
  clear hp5 hn4 hB03 hB5 hB3 hr1 hr2 hbig
  refine run_l tabOk ?_
  conv => whnf
  (repeat' (first | (refine wl_Lag tabOk hb3 rfl rfl rfl rfl rfl rfl (run_l tabOk ?_); conv => whnf) | ((first | refine wl_add rfl rfl rfl rfl rfl rfl (by omega) (by omega) (run_l tabOk ?_) | refine wl_sub rfl rfl rfl rfl rfl rfl (by omega) (by omega) (run_l tabOk ?_) | refine gs_dt (by first | assumption | omega) ?_ | refine gs_df (by first | assumption | omega) ?_ | refine gs_t (by assumption) ?_ | refine gs_f (by assumption) ?_ | refine gs_d (fun hg => ?_) (fun hg => ?_) | refine gs_n (fun hg => ?_) (fun hg => ?_) | refine gs_nb (fun hg => ?_) (fun hg => ?_) | refine gs_b (fun hg => ?_) (fun hg => ?_)) <;> conv => whnf) | refine fin1 rfl rfl ?_))
  refine wl_C fn26 (shLabels n xs ys A1 A2 c1 c2 r w5 hright hs1 hs2) rfl rfl rfl rfl rfl rfl rfl ?_
  rintro _ wl ⟨gL, lab1, rfl, hL, hLM1, hBl⟩
  have hb3 := blk_up hBl hb3
  have hs1 := hs1.up stays_Cell hBl
  have hs2 := hs2.up stays_Con hBl
  have hB05 := bup hB05 hBl
  refine ⟨_, rfl, run_l tabOk ?_⟩
  conv => whnf
  (repeat' (first | (refine wl_Lag tabOk hb3 rfl rfl rfl rfl rfl rfl (run_l tabOk ?_); conv => whnf) | ((first | refine wl_add rfl rfl rfl rfl rfl rfl (by omega) (by omega) (run_l tabOk ?_) | refine wl_sub rfl rfl rfl rfl rfl rfl (by omega) (by omega) (run_l tabOk ?_) | refine gs_dt (by first | assumption | omega) ?_ | refine gs_df (by first | assumption | omega) ?_ | refine gs_t (by assumption) ?_ | refine gs_f (by assumption) ?_ | refine gs_d (fun hg => ?_) (fun hg => ?_) | refine gs_n (fun hg => ?_) (fun hg => ?_) | refine gs_nb (fun hg => ?_) (fun hg => ?_) | refine gs_b (fun hg => ?_) (fun hg => ?_)) <;> conv => whnf) | refine fin1 rfl rfl ?_))
  have hby := shBy n xs ys A1 A2 c1 c2 r wl hright ⟨by omega, by omega⟩ hs1 hs2
  refine wl_C fn27 hby rfl rfl rfl rfl rfl rfl rfl ?_
  rintro _ w6 ⟨gw, wh, lab, H, B, D1, d1, D2, d2, rfl, hA, hcan, hLM, hB6⟩
  refine ⟨_, rfl, run_l tabOk ?_⟩
  conv => whnf
  (repeat' (first | ((first | refine wl_add rfl rfl rfl rfl rfl rfl (by omega) (by omega) (run_l tabOk ?_) | refine wl_sub rfl rfl rfl rfl rfl rfl (by omega) (by omega) (run_l tabOk ?_) | refine gs_dt (by first | assumption | omega) ?_ | refine gs_df (by first | assumption | omega) ?_ | refine gs_t (by assumption) ?_ | refine gs_f (by assumption) ?_ | refine gs_d (fun hg => ?_) (fun hg => ?_) | refine gs_n (fun hg => ?_) (fun hg => ?_) | refine gs_nb (fun hg => ?_) (fun hg => ?_) | refine gs_b (fun hg => ?_) (fun hg => ?_)) <;> conv => whnf) | refine fin1 rfl rfl ?_))
  refine wl_alloc tabOk rfl rfl rfl rfl rfl rfl ?_
  intro g6 w7 hn7
  refine run_l tabOk ?_
  conv => whnf
  refine wl_Sa tabOk hn7.blk rfl rfl rfl rfl rfl (by simp [Value.oneCell']) rfl rfl ?_
  intro w8 hp8
  have hB68 : Below w6.heap.size w6 w8 := hp8.below hn7.below (by have := hn7.at_; omega) (by have := hn7.size; omega)
  have hbt := hp8.blk
  have hA := hA.up hB68
  obtain ⟨ht1, ht2⟩ := hA.rows
  have hB58 := bup hB6 hB68
  have hb3 := blk_up hB58 hb3
  have hs1 := hs1.up stays_Cell hB58
  have hs2 := hs2.up stays_Con hB58
  have hL := hL.up (stays_I _) hB58
  have hwv : ∀ v, v < n → w8.cell? ((⟨gw, 0, none⟩ : Addr).add (v * 1)) = some (.int .i64 (wh v)) := fun v hv => by
    rw [Nat.mul_one, add_zero]
    exact cell_blk hA.wr (by simpa using fZ_get hv)
  have hB08 := bup hB05 hB58
  obtain ⟨M, hIL⟩ := exists_least hright
  have hsr := sh_right hright (wok_of hright hIL hcan hLM)
  obtain ⟨hz, hsm⟩ := where_one hright hLM1 hLM hcan
  have hle := hcan.le
  have hxn := hnn.1
  have hnle := nxt_leV wh n
  have hsn := shN_len wh (decide (¬ r = 0)) ys
  clear hp8 hn7 hB6 hB68 hB58 hA hby hIL hLM hLM1 hcan hBl hB05
  refine run_l tabOk ?_
  conv => whnf
  (repeat' (first | (refine wl_Lg tabOk hb3 rfl rfl rfl rfl rfl rfl rfl (run_l tabOk ?_); conv => whnf) | (refine wl_Lg tabOk hbt rfl rfl rfl rfl rfl rfl rfl (run_l tabOk ?_); conv => whnf) | (refine wl_Lag tabOk hbt rfl rfl rfl rfl rfl rfl (run_l tabOk ?_); conv => whnf) | ((first | refine wl_add rfl rfl rfl rfl rfl rfl (by omega) (by omega) (run_l tabOk ?_) | refine wl_sub rfl rfl rfl rfl rfl rfl (by omega) (by omega) (run_l tabOk ?_) | refine gs_dt (by first | assumption | omega) ?_ | refine gs_df (by first | assumption | omega) ?_ | refine gs_t (by assumption) ?_ | refine gs_f (by assumption) ?_ | refine gs_d (fun hg => ?_) (fun hg => ?_) | refine gs_n (fun hg => ?_) (fun hg => ?_) | refine gs_nb (fun hg => ?_) (fun hg => ?_) | refine gs_b (fun hg => ?_) (fun hg => ?_)) <;> conv => whnf) | refine fin1 rfl rfl ?_))
  have hrt := refRight ⟨(nxt wh n : Nat), xs.map (shC wh), shN wh (decide (¬ r = 0)) ys⟩ D1 D2 d1 d2 w8 ht1 ht2
  simp only [List.length_map] at hrt
  refine wl_C fn28 hrt rfl rfl rfl rfl rfl rfl rfl ?_
  rintro _ w9 ⟨rfl, hB9⟩
  have hb3 := blk_up hB9 hb3
  have hbt := blk_up hB9 hbt
  have hs1 := hs1.up stays_Cell hB9
  have hs2 := hs2.up stays_Con hB9
  have ht1 := ht1.up stays_Cell hB9
  have ht2 := ht2.up stays_Con hB9
  have hL := hL.up (stays_I _) hB9
  have cW : ∀ wi, Below w9.heap.size w9 wi → ∀ v, v < n → wi.cell? ((⟨gw, 0, none⟩ : Addr).add (v * 1)) = some (.int .i64 (wh v)) := fun wi hb v hv => cell_up hb (cell_up hB9 (hwv v hv))
  have cL : ∀ wi, Below w9.heap.size w9 wi → ∀ v, v < n → wi.cell? ((⟨gL, 0, none⟩ : Addr).add (v * 1)) = some (.int .i64 (lab1 v)) := fun wi hb v hv => by
    obtain ⟨z, ad, ⟨hz⟩, e, hc, _, _⟩ := intsE hL v (by simpa using hv)
    injection e with e
    subst e
    have hz : z = lab1 v := by rw [← hz]; simp [hv]
    subst hz
    exact cell_up hb hc
  have hBw := bup hB08 hB9
  clear hB9 hB08 hwv hL hrt
  refine ⟨_, rfl, run_l tabOk ?_⟩
  rw [hsr]
  conv => whnf
  (repeat' (first | (refine wl_Lg tabOk hb3 rfl rfl rfl rfl rfl rfl rfl (run_l tabOk ?_); conv => whnf) | (refine wl_Lg tabOk hbt rfl rfl rfl rfl rfl rfl rfl (run_l tabOk ?_); conv => whnf) | ((first | refine wl_add rfl rfl rfl rfl rfl rfl (by omega) (by omega) (run_l tabOk ?_) | refine wl_sub rfl rfl rfl rfl rfl rfl (by omega) (by omega) (run_l tabOk ?_) | refine gs_dt (by first | assumption | omega) ?_ | refine gs_df (by first | assumption | omega) ?_ | refine gs_t (by assumption) ?_ | refine gs_f (by assumption) ?_ | refine gs_d (fun hg => ?_) (fun hg => ?_) | refine gs_n (fun hg => ?_) (fun hg => ?_) | refine gs_nb (fun hg => ?_) (fun hg => ?_) | refine gs_b (fun hg => ?_) (fun hg => ?_)) <;> conv => whnf) | refine fin1 rfl rfl ?_))
  refine wc_ends 0 (fun _ _ => False) (X := Unit) (fun _ => [(1, .int .u8 r), (5, .pointer (some ⟨g3, 0, none⟩)), (7, .pointer (some ⟨g6, 0, none⟩)), (8, .slice (some ⟨gw, 0, none⟩) n n), (10, .int .i64 (nxt wh n : Int))]) (fun _ wk => Below w9.heap.size w9 wk) ?_ (fun _ _ h => h.elim) ?_
  · refine lp_loop tabOk (X := Nat) (fun v => [(1, .int .u8 r), (5, .pointer (some ⟨g3, 0, none⟩)), (6, .slice (some ⟨gL, 0, none⟩) n n), (7, .pointer (some ⟨g6, 0, none⟩)), (8, .slice (some ⟨gw, 0, none⟩) n n), (10, .int .i64 (nxt wh v : Int)), (11, .int .i64 (v : Int))]) (fun v wi => v ≤ n ∧ Below w9.heap.size w9 wi) (fun v => n - v) 0 ⟨rfl, rfl, rfl, rfl, rfl, rfl, rfl, trivial⟩ ⟨by omega, Below.refl _ _⟩ ?_
    rintro v G2 wi ⟨hv, hBi⟩
    have hb3i := blk_up hBi hb3
    by_cases hvn : v < n
    · have cw := cW wi hBi v hvn
      have cl := cL wi hBi v hvn
      have hlev := (hle v hvn).2
      have hnx : nxt wh (v + 1) = if wh v = (nxt wh v : Int) then nxt wh v + 1 else nxt wh v := rfl
      have hnl := nxt_leV wh v
      have hd : decide (wh v < 0) = decide (lab1 v < 0) := decide_eq_decide.2 (hz v hvn)
      have hbe : (!(decide (wh v < 0) == decide (lab1 v < 0))) = false := by rw [hd]; simp
      have hbe2 : (decide (wh v < 0) != decide (lab1 v < 0)) = false := by rw [hd]; simp
      have hq : (wh v = (nxt wh v : Int) ∧ ((nxt wh (v + 1) : Nat) : Int) = (nxt wh v : Int) + 1) ∨ (¬ wh v = (nxt wh v : Int) ∧ ((nxt wh (v + 1) : Nat) : Int) = (nxt wh v : Int)) := by
        rw [hnx]
        by_cases e : wh v = (nxt wh v : Int)
        · rw [if_pos e]; exact .inl ⟨e, by omega⟩
        · rw [if_neg e]; exact .inr ⟨e, rfl⟩
      rcases hq with ⟨hq, hq2⟩ | ⟨hq, hq2⟩
      all_goals
        conv => whnf
        (repeat' (first | (refine wl_Lg tabOk hb3i rfl rfl rfl rfl rfl rfl rfl (run_l tabOk ?_); conv => whnf) | ((first | refine wl_add rfl rfl rfl rfl rfl rfl (by omega) (by omega) (run_l tabOk ?_) | refine wl_sub rfl rfl rfl rfl rfl rfl (by omega) (by omega) (run_l tabOk ?_) | refine gs_dt (by first | assumption | omega) ?_ | refine gs_df (by first | assumption | omega) ?_ | refine gs_t (by assumption) ?_ | refine gs_f (by assumption) ?_ | refine gs_d (fun hg => ?_) (fun hg => ?_) | refine gs_n (fun hg => ?_) (fun hg => ?_) | refine gs_nb (fun hg => ?_) (fun hg => ?_) | refine gs_b (fun hg => ?_) (fun hg => ?_)) <;> conv => whnf) | refine fin1 rfl rfl ?_))
        refine wc_qr tabOk mixed (by kernel_rfl) ?_; conv => whnf
        (repeat' (first | (refine wq_L tabOk rfl rfl rfl rfl rfl rfl cw (run_q tabOk ?_); conv => whnf) | (refine wq_L tabOk rfl rfl rfl rfl rfl rfl cl (run_q tabOk ?_); conv => whnf) | (refine wq_Xn tabOk 3 1 rfl rfl rfl rfl rfl rfl rfl (by omega) (run_q tabOk ?_); conv => whnf) | (rw [hbe]; (conv => whnf)) | (rw [hbe2]; (conv => whnf)) | ((first | refine wq_add rfl rfl rfl rfl rfl rfl (by omega) (by omega) (run_q tabOk ?_) | refine wq_sub rfl rfl rfl rfl rfl rfl (by omega) (by omega) (run_q tabOk ?_) | refine gs_dt (by first | assumption | omega) ?_ | refine gs_df (by first | assumption | omega) ?_ | refine gs_t (by assumption) ?_ | refine gs_f (by assumption) ?_ | refine gs_d (fun hg => ?_) (fun hg => ?_) | refine gs_n (fun hg => ?_) (fun hg => ?_) | refine gs_nb (fun hg => ?_) (fun hg => ?_) | refine gs_b (fun hg => ?_) (fun hg => ?_)) <;> conv => whnf)))
        intro w11 hB11
        conv => whnf
        have cw2 := cell_up hB11 cw
        (repeat' (first | (refine wl_L tabOk rfl rfl rfl rfl rfl rfl cw2 (run_l tabOk ?_); conv => whnf) | (refine wl_Xn tabOk 3 1 rfl rfl rfl rfl rfl rfl rfl (by omega) (run_l tabOk ?_); conv => whnf) | ((first | refine wl_add rfl rfl rfl rfl rfl rfl (by omega) (by omega) (run_l tabOk ?_) | refine wl_sub rfl rfl rfl rfl rfl rfl (by omega) (by omega) (run_l tabOk ?_) | refine gs_dt (by first | assumption | omega) ?_ | refine gs_df (by first | assumption | omega) ?_ | refine gs_t (by assumption) ?_ | refine gs_f (by assumption) ?_ | refine gs_d (fun hg => ?_) (fun hg => ?_) | refine gs_n (fun hg => ?_) (fun hg => ?_) | refine gs_nb (fun hg => ?_) (fun hg => ?_) | refine gs_b (fun hg => ?_) (fun hg => ?_)) <;> conv => whnf) | refine fin1 rfl rfl ?_))
        refine wc_ends 2 (fun _ _ => False) (X := Unit) (fun _ => [(1, .int .u8 r), (5, .pointer (some ⟨g3, 0, none⟩)), (6, .slice (some ⟨gL, 0, none⟩) n n), (7, .pointer (some ⟨g6, 0, none⟩)), (8, .slice (some ⟨gw, 0, none⟩) n n), (10, .int .i64 (nxt wh (v + 1) : Int)), (11, .int .i64 (v : Int))]) (fun _ wk => Below w9.heap.size w9 wk) ?_ (fun _ _ h => h.elim) ?_
        · refine lp_loop tabOk (X := Nat) (fun u => [(1, .int .u8 r), (5, .pointer (some ⟨g3, 0, none⟩)), (6, .slice (some ⟨gL, 0, none⟩) n n), (7, .pointer (some ⟨g6, 0, none⟩)), (8, .slice (some ⟨gw, 0, none⟩) n n), (10, .int .i64 (nxt wh (v + 1) : Int)), (11, .int .i64 (v : Int)), (12, .int .i64 (u : Int))]) (fun u wk => u ≤ v ∧ Below w9.heap.size w9 wk) (fun u => v - u) 0 ⟨rfl, rfl, rfl, rfl, rfl, congrArg (Value.int .i64) hq2.symm, rfl, rfl, trivial⟩ ⟨by omega, bup hBi hB11⟩ ?_
          rintro u G3 wk ⟨hu, hBk⟩
          by_cases huv : u < v
          · have hun : u < n := by omega
            have c1 := cW wk hBk v hvn
            have c2 := cW wk hBk u hun
            have c3 := cL wk hBk v hvn
            have c4 := cL wk hBk u hun
            have hd2 : decide (wh v = wh u) = decide (lab1 v = lab1 u) := decide_eq_decide.2 (hsm v u hvn hun)
            have hbe3 : (!(decide (wh v = wh u) == decide (lab1 v = lab1 u))) = false := by rw [hd2]; simp
            have hbe4 : (decide (wh v = wh u) != decide (lab1 v = lab1 u)) = false := by rw [hd2]; simp
            conv => whnf
            (repeat' (first | ((first | refine wl_add rfl rfl rfl rfl rfl rfl (by omega) (by omega) (run_l tabOk ?_) | refine wl_sub rfl rfl rfl rfl rfl rfl (by omega) (by omega) (run_l tabOk ?_) | refine gs_dt (by first | assumption | omega) ?_ | refine gs_df (by first | assumption | omega) ?_ | refine gs_t (by assumption) ?_ | refine gs_f (by assumption) ?_ | refine gs_d (fun hg => ?_) (fun hg => ?_) | refine gs_n (fun hg => ?_) (fun hg => ?_) | refine gs_nb (fun hg => ?_) (fun hg => ?_) | refine gs_b (fun hg => ?_) (fun hg => ?_)) <;> conv => whnf) | refine fin1 rfl rfl ?_))
            refine wc_qr tabOk mixed (by kernel_rfl) ?_; conv => whnf
            (repeat' (first | (refine wq_L tabOk rfl rfl rfl rfl rfl rfl c1 (run_q tabOk ?_); conv => whnf) | (refine wq_L tabOk rfl rfl rfl rfl rfl rfl c2 (run_q tabOk ?_); conv => whnf) | (refine wq_L tabOk rfl rfl rfl rfl rfl rfl c3 (run_q tabOk ?_); conv => whnf) | (refine wq_L tabOk rfl rfl rfl rfl rfl rfl c4 (run_q tabOk ?_); conv => whnf) | (refine wq_Xn tabOk 3 1 rfl rfl rfl rfl rfl rfl rfl (by omega) (run_q tabOk ?_); conv => whnf) | (rw [hbe3]; (conv => whnf)) | (rw [hbe4]; (conv => whnf)) | ((first | refine wq_add rfl rfl rfl rfl rfl rfl (by omega) (by omega) (run_q tabOk ?_) | refine wq_sub rfl rfl rfl rfl rfl rfl (by omega) (by omega) (run_q tabOk ?_) | refine gs_dt (by first | assumption | omega) ?_ | refine gs_df (by first | assumption | omega) ?_ | refine gs_t (by assumption) ?_ | refine gs_f (by assumption) ?_ | refine gs_d (fun hg => ?_) (fun hg => ?_) | refine gs_n (fun hg => ?_) (fun hg => ?_) | refine gs_nb (fun hg => ?_) (fun hg => ?_) | refine gs_b (fun hg => ?_) (fun hg => ?_)) <;> conv => whnf)))
            intro w12 hB12
            conv => whnf
            (repeat' (first | ((first | refine wl_add rfl rfl rfl rfl rfl rfl (by omega) (by omega) (run_l tabOk ?_) | refine wl_sub rfl rfl rfl rfl rfl rfl (by omega) (by omega) (run_l tabOk ?_) | refine gs_dt (by first | assumption | omega) ?_ | refine gs_df (by first | assumption | omega) ?_ | refine gs_t (by assumption) ?_ | refine gs_f (by assumption) ?_ | refine gs_d (fun hg => ?_) (fun hg => ?_) | refine gs_n (fun hg => ?_) (fun hg => ?_) | refine gs_nb (fun hg => ?_) (fun hg => ?_) | refine gs_b (fun hg => ?_) (fun hg => ?_)) <;> conv => whnf) | refine fin1 rfl rfl ?_))
            exact ⟨u + 1, ⟨rfl, rfl, rfl, rfl, rfl, rfl, rfl, rfl, trivial⟩, ⟨by omega, bup hBk hB12⟩, by omega⟩
          · conv => whnf
            (repeat' (first | ((first | refine wl_add rfl rfl rfl rfl rfl rfl (by omega) (by omega) (run_l tabOk ?_) | refine wl_sub rfl rfl rfl rfl rfl rfl (by omega) (by omega) (run_l tabOk ?_) | refine gs_dt (by first | assumption | omega) ?_ | refine gs_df (by first | assumption | omega) ?_ | refine gs_t (by assumption) ?_ | refine gs_f (by assumption) ?_ | refine gs_d (fun hg => ?_) (fun hg => ?_) | refine gs_n (fun hg => ?_) (fun hg => ?_) | refine gs_nb (fun hg => ?_) (fun hg => ?_) | refine gs_b (fun hg => ?_) (fun hg => ?_)) <;> conv => whnf) | refine fin1 rfl rfl ?_))
            exact ⟨rfl, (), ⟨rfl, rfl, rfl, rfl, rfl, rfl, rfl, trivial⟩, hBk⟩
        · rintro _ G3 wk hBk
          conv => whnf
          (repeat' (first | ((first | refine wl_add rfl rfl rfl rfl rfl rfl (by omega) (by omega) (run_l tabOk ?_) | refine wl_sub rfl rfl rfl rfl rfl rfl (by omega) (by omega) (run_l tabOk ?_) | refine gs_dt (by first | assumption | omega) ?_ | refine gs_df (by first | assumption | omega) ?_ | refine gs_t (by assumption) ?_ | refine gs_f (by assumption) ?_ | refine gs_d (fun hg => ?_) (fun hg => ?_) | refine gs_n (fun hg => ?_) (fun hg => ?_) | refine gs_nb (fun hg => ?_) (fun hg => ?_) | refine gs_b (fun hg => ?_) (fun hg => ?_)) <;> conv => whnf) | refine fin1 rfl rfl ?_))
          exact ⟨v + 1, ⟨rfl, rfl, rfl, rfl, rfl, rfl, rfl, trivial⟩, ⟨by omega, hBk⟩, by omega⟩
    · have hvn2 : v = n := by omega
      subst hvn2
      conv => whnf
      (repeat' (first | (refine wl_Lg tabOk hb3i rfl rfl rfl rfl rfl rfl rfl (run_l tabOk ?_); conv => whnf) | ((first | refine wl_add rfl rfl rfl rfl rfl rfl (by omega) (by omega) (run_l tabOk ?_) | refine wl_sub rfl rfl rfl rfl rfl rfl (by omega) (by omega) (run_l tabOk ?_) | refine gs_dt (by first | assumption | omega) ?_ | refine gs_df (by first | assumption | omega) ?_ | refine gs_t (by assumption) ?_ | refine gs_f (by assumption) ?_ | refine gs_d (fun hg => ?_) (fun hg => ?_) | refine gs_n (fun hg => ?_) (fun hg => ?_) | refine gs_nb (fun hg => ?_) (fun hg => ?_) | refine gs_b (fun hg => ?_) (fun hg => ?_)) <;> conv => whnf) | refine fin1 rfl rfl ?_))
      exact ⟨rfl, (), ⟨rfl, rfl, rfl, rfl, rfl, trivial⟩, hBi⟩
  · rintro _ G wA hBA
    have hbtA := blk_up hBA hbt
    conv => whnf
    (repeat' (first | (refine wl_Lg tabOk hbtA rfl rfl rfl rfl rfl rfl rfl (run_l tabOk ?_); conv => whnf) | ((first | refine wl_add rfl rfl rfl rfl rfl rfl (by omega) (by omega) (run_l tabOk ?_) | refine wl_sub rfl rfl rfl rfl rfl rfl (by omega) (by omega) (run_l tabOk ?_) | refine gs_dt (by first | assumption | omega) ?_ | refine gs_df (by first | assumption | omega) ?_ | refine gs_t (by assumption) ?_ | refine gs_f (by assumption) ?_ | refine gs_d (fun hg => ?_) (fun hg => ?_) | refine gs_n (fun hg => ?_) (fun hg => ?_) | refine gs_nb (fun hg => ?_) (fun hg => ?_) | refine gs_b (fun hg => ?_) (fun hg => ?_)) <;> conv => whnf) | refine fin1 rfl rfl ?_))
    refine wl_alloc tabOk rfl rfl rfl rfl rfl rfl ?_
    intro g13 wB hnB
    refine run_l tabOk ?_
    conv => whnf
    refine wl_S (off := 0) (v := .int .i64 (nxt wh n : Int)) tabOk hnB.blk rfl rfl rfl rfl rfl rfl (by simp) rfl rfl ?_
    intro wS hpS
    have hbS : wS.heap[g13]? = some (.cells #[.int .i64 (nxt wh n : Int), .slice none 0 0, .slice none 0 0] 29 (0, 0)) := hpS.blk
    have hg13 : w9.heap.size ≤ g13 ∧ g13 < wS.heap.size := ⟨by have := hnB.at_; have := hBA.size; omega, blk_lt hbS⟩
    have hBS : Below w9.heap.size w9 wS := hpS.below (hnB.up hBA) hg13.1 (by have := hBA.size; have := hnB.size; omega)
    have hcell := right_cellP hright
    have hcon := right_conP hright
    obtain ⟨cnt, hcnt⟩ : ∃ c : Nat, c = nxt wh n := ⟨_, rfl⟩
    rw [← hcnt] at hbS hbt hnle ⊢
    have hwr : ∀ v, v < n → -1 ≤ wh v ∧ wh v < (n : Int) := fun v hv => by
      have h3 := hle v hv
      have h4 := nxt_leV wh v
      omega
    clear hpS hnB hBA hbtA hz hsm hle
    refine run_l tabOk ?_
    conv => whnf
    (repeat' (first | ((first | refine wl_add rfl rfl rfl rfl rfl rfl (by omega) (by omega) (run_l tabOk ?_) | refine wl_sub rfl rfl rfl rfl rfl rfl (by omega) (by omega) (run_l tabOk ?_) | refine gs_dt (by first | assumption | omega) ?_ | refine gs_df (by first | assumption | omega) ?_ | refine gs_t (by assumption) ?_ | refine gs_f (by assumption) ?_ | refine gs_d (fun hg => ?_) (fun hg => ?_) | refine gs_n (fun hg => ?_) (fun hg => ?_) | refine gs_nb (fun hg => ?_) (fun hg => ?_) | refine gs_b (fun hg => ?_) (fun hg => ?_)) <;> conv => whnf) | refine fin1 rfl rfl ?_))
    refine wc_ends 4 (fun _ _ => False) (X := Option Addr × Nat) (fun _ => [(1, .int .u8 r), (5, .pointer (some ⟨g3, 0, none⟩)), (7, .pointer (some ⟨g6, 0, none⟩)), (8, .slice (some ⟨gw, 0, none⟩) n n), (13, .pointer (some ⟨g13, 0, none⟩))]) (fun x wj => ∃ bs, Kept [g13] wS wj ∧ wj.heap[g13]? = some (.cells #[.int .i64 (cnt : Int), .slice x.1 xs.length x.2, .slice none 0 0] 29 (0, 0)) ∧ GRow 3 dCell 44 wS.heap.size wj (.slice x.1 xs.length x.2) (xs.map (shC wh)) bs) ?_ (fun _ _ h => h.elim) ?_
    · refine lp_loop tabOk (X := Nat × Option Addr × Nat) (fun x => [(1, .int .u8 r), (5, .pointer (some ⟨g3, 0, none⟩)), (7, .pointer (some ⟨g6, 0, none⟩)), (8, .slice (some ⟨gw, 0, none⟩) n n), (13, .pointer (some ⟨g13, 0, none⟩)), (14, .int .i64 (x.1 : Int))]) (fun x wj => x.1 ≤ xs.length ∧ ∃ bs, Kept [g13] wS wj ∧ wj.heap[g13]? = some (.cells #[.int .i64 (cnt : Int), .slice x.2.1 x.1 x.2.2, .slice none 0 0] 29 (0, 0)) ∧ GRow 3 dCell 44 wS.heap.size wj (.slice x.2.1 x.1 x.2.2) ((xs.take x.1).map (shC wh)) bs) (fun x => xs.length - x.1) (0, none, 0) ⟨rfl, rfl, rfl, rfl, rfl, rfl, trivial⟩ ⟨by simp, [], Kept.refl _ _, hbS, GRow.nil ..⟩ ?_
      clear hbS
      rintro ⟨i, D3, d3⟩ G2 wj ⟨hi, bs, hkj, hb13, hrow⟩
      simp only at hi hb13 hrow
      have hBj : Below w9.heap.size w9 wj := hkj.below hBS hBS.size (fun k hk => by simp at hk; subst hk; exact hg13.1)
      have hszj := hkj.size
      have hb3j := blk_up hBj hb3
      by_cases hil : i < xs.length
      · obtain ⟨x, ad, Bx, c, ⟨hx⟩, hA1, hcs, hlc, ⟨hRB⟩, hv1, hv2⟩ := cellsE (hs1.up stays_Cell hBj) i hil
        subst hA1
        have hxm : x ∈ xs := by rw [← hx, getElem!_pos xs i hil]; exact List.getElem_mem hil
        obtain ⟨hxv, hxl, hxa⟩ := hcell x hxm
        have hxr := atF_rng' hwr hxv.2
        have hlen : ((xs.take i).map (shC wh)).length = i := by simp; omega
        have hnx : (xs.take (i + 1)).map (shC wh) = (xs.take i).map (shC wh) ++ [shC wh x] := by rw [List.take_add_one, List.getElem?_eq_getElem hil, List.map_append, ← hx, getElem!_pos xs i hil]; rfl
        obtain ⟨xv, hxv2⟩ := Int.eq_ofNat_of_zero_le hxv.1
        have hatv : atF wh x.v = wh xv := by unfold atF; rw [if_neg (by omega), hxv2]; rfl
        have cwx := cW wj hBj xv (by omega)
        rw [← hatv] at cwx
        have hcs0 := hcs
        obtain ⟨f1, f2, f3, _⟩ := hcs
        rw [hxv2] at f2
        conv => whnf
        (repeat' (first | (refine wl_Lg tabOk hb3j rfl rfl rfl rfl rfl rfl rfl (run_l tabOk ?_); conv => whnf) | ((first | refine wl_add rfl rfl rfl rfl rfl rfl (by omega) (by omega) (run_l tabOk ?_) | refine wl_sub rfl rfl rfl rfl rfl rfl (by omega) (by omega) (run_l tabOk ?_) | refine gs_dt (by first | assumption | omega) ?_ | refine gs_df (by first | assumption | omega) ?_ | refine gs_t (by assumption) ?_ | refine gs_f (by assumption) ?_ | refine gs_d (fun hg => ?_) (fun hg => ?_) | refine gs_n (fun hg => ?_) (fun hg => ?_) | refine gs_nb (fun hg => ?_) (fun hg => ?_) | refine gs_b (fun hg => ?_) (fun hg => ?_)) <;> conv => whnf) | refine fin1 rfl rfl ?_))
        refine wc_qx [0, 1, 2, 3, 4, 5, 6, 7, 8, 9, 10, 11, 12, 13, 14, 15] 1 17 (stable_Bw _) tabOk mixed (by kernel_rfl) (Below.refl _ _) ?_; (conv => whnf)
        (repeat' (first | (refine wq_Lg tabOk hb3j rfl rfl rfl rfl rfl rfl rfl (run_q tabOk ?_); conv => whnf) | (refine wq_L tabOk rfl rfl rfl rfl rfl rfl f1 (run_q tabOk ?_); conv => whnf) | (refine wq_L tabOk rfl rfl rfl rfl rfl rfl f2 (run_q tabOk ?_); conv => whnf) | (refine wq_L tabOk rfl rfl rfl rfl rfl rfl cwx (run_q tabOk ?_); conv => whnf) | (refine wq_Xn tabOk 44 3 rfl rfl rfl rfl rfl rfl rfl (by omega) (run_q tabOk ?_); conv => whnf) | (refine wq_Xn tabOk 3 1 rfl rfl rfl rfl rfl rfl rfl (by omega) (run_q tabOk ?_); conv => whnf) | ((first | refine wq_add rfl rfl rfl rfl rfl rfl (by omega) (by omega) (run_q tabOk ?_) | refine wq_sub rfl rfl rfl rfl rfl rfl (by omega) (by omega) (run_q tabOk ?_) | refine gs_dt (by first | assumption | omega) ?_ | refine gs_df (by first | assumption | omega) ?_ | refine gs_t (by assumption) ?_ | refine gs_f (by assumption) ?_ | refine gs_d (fun hg => ?_) (fun hg => ?_) | refine gs_n (fun hg => ?_) (fun hg => ?_) | refine gs_nb (fun hg => ?_) (fun hg => ?_) | refine gs_b (fun hg => ?_) (fun hg => ?_)) <;> conv => whnf)))
        intro W hC hBW
        conv => whnf
        refine And.intro ?_ True.intro
        conv => whnf
        refine wb_a (wa_alloc tabOk rfl rfl rfl rfl rfl ?_)
        intro g15 Wa hna
        refine ⟨bup hC hna.below, fun W2 hW hC2 => ?_⟩
        have hb15 := blk_up hW hna.blk
        have hg15 : wj.heap.size ≤ g15 ∧ g15 < W2.heap.size := ⟨by have := hna.at_; have := hC.size; omega, blk_lt hb15⟩
        clear hna hW hBW
        conv => whnf
        refine wl_Sa tabOk hb15 rfl rfl rfl rfl rfl (by simp [Value.oneCell']) rfl rfl ?_
        intro wl hpl
        have hb15 : wl.heap[g15]? = some (.cells #[.bool x.fn, .int .i64 (atF wh x.v), .slice none 0 0] 44 (0, 0)) := hpl.blk
        have hBjl : Below wj.heap.size wj wl := hpl.below hC2 hg15.1 hC2.size
        have hg15 : wj.heap.size ≤ g15 ∧ g15 < wl.heap.size := ⟨hg15.1, blk_lt hb15⟩
        clear hpl hC2 hC
        refine run_l tabOk ?_
        conv => whnf
        (repeat' (first | ((first | refine wl_add rfl rfl rfl rfl rfl rfl (by omega) (by omega) (run_l tabOk ?_) | refine wl_sub rfl rfl rfl rfl rfl rfl (by omega) (by omega) (run_l tabOk ?_) | refine gs_dt (by first | assumption | omega) ?_ | refine gs_df (by first | assumption | omega) ?_ | refine gs_t (by assumption) ?_ | refine gs_f (by assumption) ?_ | refine gs_d (fun hg => ?_) (fun hg => ?_) | refine gs_n (fun hg => ?_) (fun hg => ?_) | refine gs_nb (fun hg => ?_) (fun hg => ?_) | refine gs_b (fun hg => ?_) (fun hg => ?_)) <;> conv => whnf) | refine fin1 rfl rfl ?_))
        refine wc_ends 6 (fun _ _ => False) (X := Option Addr × Nat) (fun _ => [(1, .int .u8 r), (5, .pointer (some ⟨g3, 0, none⟩)), (7, .pointer (some ⟨g6, 0, none⟩)), (8, .slice (some ⟨gw, 0, none⟩) n n), (13, .pointer (some ⟨g13, 0, none⟩)), (14, .int .i64 (i : Int)), (15, .pointer (some ⟨g15, 0, none⟩))]) (fun y wk => Kept [g15] wl wk ∧ wk.heap[g15]? = some (.cells #[.bool x.fn, .int .i64 (atF wh x.v), .slice y.1 x.args.length y.2] 44 (0, 0)) ∧ GInts wl.heap.size wk (.slice y.1 x.args.length y.2) (x.args.map (atF wh))) ?_ (fun _ _ h => h.elim) ?_
        · refine lp_loop tabOk (X := Nat × Option Addr × Nat) (fun y => [(1, .int .u8 r), (5, .pointer (some ⟨g3, 0, none⟩)), (7, .pointer (some ⟨g6, 0, none⟩)), (8, .slice (some ⟨gw, 0, none⟩) n n), (13, .pointer (some ⟨g13, 0, none⟩)), (14, .int .i64 (i : Int)), (15, .pointer (some ⟨g15, 0, none⟩)), (16, .int .i64 (y.1 : Int))]) (fun y wk => y.1 ≤ x.args.length ∧ Kept [g15] wl wk ∧ wk.heap[g15]? = some (.cells #[.bool x.fn, .int .i64 (atF wh x.v), .slice y.2.1 y.1 y.2.2] 44 (0, 0)) ∧ GInts wl.heap.size wk (.slice y.2.1 y.1 y.2.2) ((x.args.take y.1).map (atF wh))) (fun y => x.args.length - y.1) (0, none, 0) ⟨rfl, rfl, rfl, rfl, rfl, rfl, rfl, rfl, trivial⟩ ⟨by simp, Kept.refl _ _, hb15, by simpa using GRow.nil ..⟩ ?_
          clear hb15
          rintro ⟨k, E, ec⟩ G3 wk ⟨hk, hkk, hb15, hE⟩
          simp only at hk hb15 hE
          have hBk : Below wj.heap.size wj wk := hkk.below hBjl hBjl.size (fun k hk => by simp at hk; subst hk; exact hg15.1)
          have hBk9 := bup hBj hBk
          have hb3k := blk_up hBk9 hb3
          obtain ⟨_, _, e3, _⟩ := cellsAt_up hBk hcs0
          by_cases hkl : k < x.args.length
          · obtain ⟨y, ad3, ⟨hy⟩, e4, hyc, _, _⟩ := intsE (hRB.up (stays_I _) hBk) k hkl
            subst e4
            have hym : y ∈ x.args := by rw [← hy, getElem!_pos x.args k hkl]; exact List.getElem_mem hkl
            have hyr := hxa y hym
            have hyr2 := atF_rng' hwr hyr.2
            obtain ⟨yv, hyv⟩ := Int.eq_ofNat_of_zero_le hyr.1
            have haty : atF wh y = wh yv := by unfold atF; rw [if_neg (by omega), hyv]; rfl
            have cwy := cW wk hBk9 yv (by omega)
            rw [← haty] at cwy
            rw [hyv] at hyc
            have hlk : ((x.args.take k).map (atF wh)).length = k := by simp; omega
            have hnk : (x.args.take (k + 1)).map (atF wh) = (x.args.take k).map (atF wh) ++ [atF wh y] := by rw [List.take_add_one, List.getElem?_eq_getElem hkl, List.map_append, ← hy, getElem!_pos x.args k hkl]; rfl
            conv => whnf
            (repeat' (first | (refine wl_Lg tabOk hb3k rfl rfl rfl rfl rfl rfl rfl (run_l tabOk ?_); conv => whnf) | (refine wl_L tabOk rfl rfl rfl rfl rfl rfl e3 (run_l tabOk ?_); conv => whnf) | (refine wl_Xn tabOk 44 3 rfl rfl rfl rfl rfl rfl rfl (by omega) (run_l tabOk ?_); conv => whnf) | ((first | refine wl_add rfl rfl rfl rfl rfl rfl (by omega) (by omega) (run_l tabOk ?_) | refine wl_sub rfl rfl rfl rfl rfl rfl (by omega) (by omega) (run_l tabOk ?_) | refine gs_dt (by first | assumption | omega) ?_ | refine gs_df (by first | assumption | omega) ?_ | refine gs_t (by assumption) ?_ | refine gs_f (by assumption) ?_ | refine gs_d (fun hg => ?_) (fun hg => ?_) | refine gs_n (fun hg => ?_) (fun hg => ?_) | refine gs_nb (fun hg => ?_) (fun hg => ?_) | refine gs_b (fun hg => ?_) (fun hg => ?_)) <;> conv => whnf) | refine fin1 rfl rfl ?_))
            refine wc_qx [0, 1, 2, 3, 4, 5, 6, 7, 8, 9, 10, 11, 12, 13] 1 15 (stable_Bw _) tabOk mixed (by kernel_rfl) (Below.refl _ _) ?_; (conv => whnf)
            (repeat' (first | (refine wq_Lg tabOk hb3k rfl rfl rfl rfl rfl rfl rfl (run_q tabOk ?_); conv => whnf) | (refine wq_Lg tabOk hb15 rfl rfl rfl rfl rfl rfl rfl (run_q tabOk ?_); conv => whnf) | (refine wq_L tabOk rfl rfl rfl rfl rfl rfl e3 (run_q tabOk ?_); conv => whnf) | (refine wq_L tabOk rfl rfl rfl rfl rfl rfl hyc (run_q tabOk ?_); conv => whnf) | (refine wq_L tabOk rfl rfl rfl rfl rfl rfl cwy (run_q tabOk ?_); conv => whnf) | (refine wq_Xn tabOk 44 3 rfl rfl rfl rfl rfl rfl rfl (by omega) (run_q tabOk ?_); conv => whnf) | (refine wq_Xn tabOk 3 1 rfl rfl rfl rfl rfl rfl rfl (by omega) (run_q tabOk ?_); conv => whnf) | ((first | refine wq_add rfl rfl rfl rfl rfl rfl (by omega) (by omega) (run_q tabOk ?_) | refine wq_sub rfl rfl rfl rfl rfl rfl (by omega) (by omega) (run_q tabOk ?_) | refine gs_dt (by first | assumption | omega) ?_ | refine gs_df (by first | assumption | omega) ?_ | refine gs_t (by assumption) ?_ | refine gs_f (by assumption) ?_ | refine gs_d (fun hg => ?_) (fun hg => ?_) | refine gs_n (fun hg => ?_) (fun hg => ?_) | refine gs_nb (fun hg => ?_) (fun hg => ?_) | refine gs_b (fun hg => ?_) (fun hg => ?_)) <;> conv => whnf)))
            intro W hC hBW
            conv => whnf
            refine And.intro ?_ True.intro
            conv => whnf
            refine wb_a (wa_bs tabOk 3 1 rfl rfl rfl rfl rfl rfl rfl rfl rfl ?_)
            intro gn W6 hn6
            refine ⟨bup hC hn6.below, fun W7 hB7 hC7 => ?_⟩
            have hbn := blk_up hB7 hn6.blk
            have hE7 := hE.below hC7
            have hb157 := blk_up hC7 hb15
            have hk7 := hkk.up hC7
            have hsz7 := hC7.size
            have hszk := hkk.size
            clear hn6 hB7 hC hC7 hBW
            conv => whnf
            obtain ⟨flat, o1, o2⟩ := hE7.own
            rw [hlk] at o1
            refine wl_ap tabOk 3 1 8 o1 hbn rfl rfl rfl rfl rfl rfl rfl rfl rfl rfl rfl rfl (by simp [Value.oneCell']) (by omega) (by omega) (by omega) ?_
            intro E2 ec2 W8 hown hgr hob
            have hE8 := gints_push hE7 (flat := flat) (fun w' _ => by have := o2 w' (by simp); exact this) (by rw [hlk]; exact hown) hgr hob (y := atF wh y) ⟨by omega, by omega⟩
            rw [← hnk] at hE8
            have hb158 : W8.heap[g15]? = _ := (hgr.block g15 (blk_lt hb157) (fun e => by have := (hE.olt g15 e.symm).1; omega)).trans hb157
            have hk8 := hk7.grown hgr (fun g e => .inr (hE.olt g e).1)
            refine run_l tabOk ?_
            conv => whnf
            refine wl_S (off := 2) (v := .slice E2 (k + 1) ec2) tabOk hb158 rfl rfl rfl rfl rfl rfl (by simp) rfl rfl ?_
            intro W9 hp9
            have hE9 := hE8.other hp9.grown (by simp) (fun q hq => by have := (hE8.olt q hq).1; omega)
            have hk9 := hk8.put hp9 (.inl (by simp))
            refine run_l tabOk ?_
            conv => whnf
            (repeat' (first | ((first | refine wl_add rfl rfl rfl rfl rfl rfl (by omega) (by omega) (run_l tabOk ?_) | refine wl_sub rfl rfl rfl rfl rfl rfl (by omega) (by omega) (run_l tabOk ?_) | refine gs_dt (by first | assumption | omega) ?_ | refine gs_df (by first | assumption | omega) ?_ | refine gs_t (by assumption) ?_ | refine gs_f (by assumption) ?_ | refine gs_d (fun hg => ?_) (fun hg => ?_) | refine gs_n (fun hg => ?_) (fun hg => ?_) | refine gs_nb (fun hg => ?_) (fun hg => ?_) | refine gs_b (fun hg => ?_) (fun hg => ?_)) <;> conv => whnf) | refine fin1 rfl rfl ?_))
            exact ⟨(k + 1, E2, ec2), ⟨rfl, rfl, rfl, rfl, rfl, rfl, rfl, rfl, trivial⟩, ⟨by simp only; omega, hk9, hp9.blk, hE9⟩, by simp only; omega⟩
          · have hkl2 : k = x.args.length := by omega
            rw [hkl2, List.take_length] at hE
            rw [hkl2] at hb15
            conv => whnf
            (repeat' (first | (refine wl_Lg tabOk hb3k rfl rfl rfl rfl rfl rfl rfl (run_l tabOk ?_); conv => whnf) | (refine wl_L tabOk rfl rfl rfl rfl rfl rfl e3 (run_l tabOk ?_); conv => whnf) | (refine wl_Xn tabOk 44 3 rfl rfl rfl rfl rfl rfl rfl (by omega) (run_l tabOk ?_); conv => whnf) | ((first | refine wl_add rfl rfl rfl rfl rfl rfl (by omega) (by omega) (run_l tabOk ?_) | refine wl_sub rfl rfl rfl rfl rfl rfl (by omega) (by omega) (run_l tabOk ?_) | refine gs_dt (by first | assumption | omega) ?_ | refine gs_df (by first | assumption | omega) ?_ | refine gs_t (by assumption) ?_ | refine gs_f (by assumption) ?_ | refine gs_d (fun hg => ?_) (fun hg => ?_) | refine gs_n (fun hg => ?_) (fun hg => ?_) | refine gs_nb (fun hg => ?_) (fun hg => ?_) | refine gs_b (fun hg => ?_) (fun hg => ?_)) <;> conv => whnf) | refine fin1 rfl rfl ?_))
            exact ⟨rfl, (E, ec), ⟨rfl, rfl, rfl, rfl, rfl, rfl, rfl, trivial⟩, hkk, hb15, hE⟩
        · clear hb15
          rintro ⟨E, ec⟩ G3 wk ⟨hkk, hb15, hE⟩
          simp only at hb15 hE
          have hBk : Below wj.heap.size wj wk := hkk.below hBjl hBjl.size (fun k hk => by simp at hk; subst hk; exact hg15.1)
          have hb13k := blk_up hBk hb13
          have hrowk := hrow.below hBk
          have hkjk := hkj.up hBk
          have hszk := hkk.size
          have hszl := hBjl.size
          conv => whnf
          (repeat' (first | (refine wl_Lg tabOk hb13k rfl rfl rfl rfl rfl rfl rfl (run_l tabOk ?_); conv => whnf) | (refine wl_Lag tabOk hb15 rfl rfl rfl rfl rfl rfl (run_l tabOk ?_); conv => whnf) | ((first | refine wl_add rfl rfl rfl rfl rfl rfl (by omega) (by omega) (run_l tabOk ?_) | refine wl_sub rfl rfl rfl rfl rfl rfl (by omega) (by omega) (run_l tabOk ?_) | refine gs_dt (by first | assumption | omega) ?_ | refine gs_df (by first | assumption | omega) ?_ | refine gs_t (by assumption) ?_ | refine gs_f (by assumption) ?_ | refine gs_d (fun hg => ?_) (fun hg => ?_) | refine gs_n (fun hg => ?_) (fun hg => ?_) | refine gs_nb (fun hg => ?_) (fun hg => ?_) | refine gs_b (fun hg => ?_) (fun hg => ?_)) <;> conv => whnf) | refine fin1 rfl rfl ?_))
          refine wl_bs tabOk 44 3 rfl rfl rfl rfl rfl rfl rfl rfl rfl rfl ?_
          intro gn wf hnf
          have hbn := hnf.blk
          have hb13f := blk_up hnf.below hb13k
          have hEf := hE.below hnf.below
          have hrowf := hrowk.below hnf.below
          have hkf := hkjk.up hnf.below
          have hszf := hnf.size
          clear hnf
          refine run_l tabOk ?_
          conv => whnf
          obtain ⟨flat, o1, o2⟩ := hrowf.own
          rw [hlen] at o1
          refine wl_ap tabOk 44 3 40 o1 hbn rfl rfl rfl rfl rfl rfl rfl rfl rfl rfl rfl rfl (by simp [Value.oneCell']) (by omega) (by omega) (by omega) ?_
          intro E2 ec2 W8 hown hgr hob
          refine run_l tabOk ?_
          conv => whnf
          have hrow8 := hrowf.push (x := shC wh x) (bs' := (Value.slice E x.args.length ec).ownBlock.toList) o2 (by rw [hlen]; exact hown) hgr hob rfl (fun w' hw' => dCell_of hEf x.fn (atF wh x.v) ⟨by omega, by omega⟩ w' hw') (fun b hb => by have := hEf.olt b (mem_own hb); exact ⟨by omega, this.2⟩) (fun b hb e => by
            have h3 := (hEf.olt b (mem_own hb)).1
            have h4 := (hrow.olt b e.symm).2
            omega)
          have hb138 : W8.heap[g13]? = _ := (hgr.block g13 (blk_lt hb13f) (fun e => by have := (hrow.olt g13 e.symm).1; omega)).trans hb13f
          refine wl_S (off := 1) (v := .slice E2 (i + 1) ec2) tabOk hb138 rfl rfl rfl rfl rfl rfl (by simp) rfl rfl ?_
          intro W9 hp9
          have hrow9 := hrow8.other hp9.grown (fun b hb => by
            rcases List.mem_append.1 hb with hb | hb
            · have := (hrow.lt b hb).1; omega
            · have := (hEf.olt b (mem_own hb)).1; omega) (fun k hk => by have := (hrow8.olt k hk).1; omega)
          rw [← hnx] at hrow9
          have hk9 := (hkf.grown hgr (fun g e => .inr (hrow.olt g e).1)).put hp9 (.inl (by simp))
          refine run_l tabOk ?_
          conv => whnf
          (repeat' (first | ((first | refine wl_add rfl rfl rfl rfl rfl rfl (by omega) (by omega) (run_l tabOk ?_) | refine wl_sub rfl rfl rfl rfl rfl rfl (by omega) (by omega) (run_l tabOk ?_) | refine gs_dt (by first | assumption | omega) ?_ | refine gs_df (by first | assumption | omega) ?_ | refine gs_t (by assumption) ?_ | refine gs_f (by assumption) ?_ | refine gs_d (fun hg => ?_) (fun hg => ?_) | refine gs_n (fun hg => ?_) (fun hg => ?_) | refine gs_nb (fun hg => ?_) (fun hg => ?_) | refine gs_b (fun hg => ?_) (fun hg => ?_)) <;> conv => whnf) | refine fin1 rfl rfl ?_))
          exact ⟨(i + 1, E2, ec2), ⟨rfl, rfl, rfl, rfl, rfl, rfl, trivial⟩, ⟨by simp only; omega, _, hk9, hp9.blk, hrow9⟩, by simp only; omega⟩
      · have hil2 : i = xs.length := by omega
        rw [hil2, List.take_length] at hrow
        rw [hil2] at hb13
        conv => whnf
        (repeat' (first | (refine wl_Lg tabOk hb3j rfl rfl rfl rfl rfl rfl rfl (run_l tabOk ?_); conv => whnf) | ((first | refine wl_add rfl rfl rfl rfl rfl rfl (by omega) (by omega) (run_l tabOk ?_) | refine wl_sub rfl rfl rfl rfl rfl rfl (by omega) (by omega) (run_l tabOk ?_) | refine gs_dt (by first | assumption | omega) ?_ | refine gs_df (by first | assumption | omega) ?_ | refine gs_t (by assumption) ?_ | refine gs_f (by assumption) ?_ | refine gs_d (fun hg => ?_) (fun hg => ?_) | refine gs_n (fun hg => ?_) (fun hg => ?_) | refine gs_nb (fun hg => ?_) (fun hg => ?_) | refine gs_b (fun hg => ?_) (fun hg => ?_)) <;> conv => whnf) | refine fin1 rfl rfl ?_))
        exact ⟨rfl, (D3, d3), ⟨rfl, rfl, rfl, rfl, rfl, trivial⟩, bs, hkj, hb13, hrow⟩
    · clear hbS
      rintro ⟨D3, d3⟩ G2 wT ⟨bs, hkT, hb13, hrow⟩
      simp only at hb13 hrow
      have hBT : Below w9.heap.size w9 wT := hkT.below hBS hBS.size (fun k hk => by simp at hk; subst hk; exact hg13.1)
      have hszT := hkT.size
      have hb3T := blk_up hBT hb3
      obtain ⟨less, hless⟩ : ∃ l, l = decide (¬ r = 0) := ⟨_, rfl⟩
      rw [← hless] at hbt hsn ht2
      conv => whnf
      (repeat' (first | ((first | refine wl_add rfl rfl rfl rfl rfl rfl (by omega) (by omega) (run_l tabOk ?_) | refine wl_sub rfl rfl rfl rfl rfl rfl (by omega) (by omega) (run_l tabOk ?_) | refine gs_dt (by first | assumption | omega) ?_ | refine gs_df (by first | assumption | omega) ?_ | refine gs_t (by assumption) ?_ | refine gs_f (by assumption) ?_ | refine gs_d (fun hg => ?_) (fun hg => ?_) | refine gs_n (fun hg => ?_) (fun hg => ?_) | refine gs_nb (fun hg => ?_) (fun hg => ?_) | refine gs_b (fun hg => ?_) (fun hg => ?_)) <;> conv => whnf) | refine fin1 rfl rfl ?_))
      refine wc_ends 8 (fun _ _ => False) (X := Option Addr × Nat) (fun _ => [(1, .int .u8 r), (5, .pointer (some ⟨g3, 0, none⟩)), (7, .pointer (some ⟨g6, 0, none⟩)), (8, .slice (some ⟨gw, 0, none⟩) n n), (13, .pointer (some ⟨g13, 0, none⟩))]) (fun x wj => ∃ bs2, Kept [g13] wT wj ∧ wj.heap[g13]? = some (.cells #[.int .i64 (cnt : Int), .slice D3 xs.length d3, .slice x.1 (shN wh less ys).length x.2] 29 (0, 0)) ∧ GRow 4 dCon 46 wT.heap.size wj (.slice x.1 (shN wh less ys).length x.2) (shN wh less ys) bs2) ?_ (fun _ _ h => h.elim) ?_
      · refine lp_loop tabOk (X := Nat × Option Addr × Nat) (fun x => [(1, .int .u8 r), (5, .pointer (some ⟨g3, 0, none⟩)), (7, .pointer (some ⟨g6, 0, none⟩)), (8, .slice (some ⟨gw, 0, none⟩) n n), (13, .pointer (some ⟨g13, 0, none⟩)), (17, .int .i64 (x.1 : Int))]) (fun x wj => x.1 ≤ ys.length ∧ ∃ bs2, Kept [g13] wT wj ∧ wj.heap[g13]? = some (.cells #[.int .i64 (cnt : Int), .slice D3 xs.length d3, .slice x.2.1 (shN wh less (ys.take x.1)).length x.2.2] 29 (0, 0)) ∧ GRow 4 dCon 46 wT.heap.size wj (.slice x.2.1 (shN wh less (ys.take x.1)).length x.2.2) (shN wh less (ys.take x.1)) bs2) (fun x => ys.length - x.1) (0, none, 0) ⟨rfl, rfl, rfl, rfl, rfl, rfl, trivial⟩ ⟨by simp, [], Kept.refl _ _, hb13, GRow.nil ..⟩ ?_
        clear hb13
        rintro ⟨i, D4, d4⟩ G3 wj ⟨hi, bs2, hkj, hb13, hrw⟩
        simp only at hi hb13 hrw
        have hBj : Below w9.heap.size w9 wj := hkj.below hBT hBT.size (fun k hk => by simp at hk; subst hk; exact hg13.1)
        have hszj := hkj.size
        have hb3j := blk_up hBj hb3
        by_cases hil : i < ys.length
        · obtain ⟨x, ad, Bx, c, ⟨hx⟩, hA2, hcs, hlc, ⟨hRB⟩, hk0, hk255, ha1, hb1⟩ := consE (hs2.up stays_Con hBj) i hil
          subst hA2
          have hxm : x ∈ ys := by rw [← hx, getElem!_pos ys i hil]; exact List.getElem_mem hil
          obtain ⟨hxk, hxa, hxb, hxl, hxr, _⟩ := hcon x hxm
          obtain ⟨out, hout⟩ : ∃ out, out = shN wh less (ys.take i) := ⟨_, rfl⟩
          have hnx : shN wh less (ys.take (i + 1)) = shStep wh less out x := by rw [shN_take hil, ← hout, hx]
          have holen : out.length ≤ i := by rw [hout]; have := shN_len wh less (ys.take i); rw [List.length_take] at this; omega
          rw [← hout] at hb13 hrw
          clear hout
          obtain ⟨y, hy⟩ : ∃ y, y = shX wh x := ⟨_, rfl⟩
          have hyk : y.k = x.k := by rw [hy]; rfl
          have hya : y.a = atF wh x.a := by rw [hy]; rfl
          have hyb : y.b = if x.k = 1 then x.b else atF wh x.b := by rw [hy]; rfl
          have hyr : y.args = x.args.map (atF wh) := by rw [hy]; rfl
          have hyl : y.args.length = x.args.length := by rw [hyr, List.length_map]
          have hya2 := atF_rng' hwr hxa.2
          rw [← hya] at hya2
          have hyb2 : -1 ≤ y.b ∧ y.b ≤ 131072 := by
            rw [hyb]
            by_cases e : x.k = 1
            · rw [if_pos e]; have := hxb.2.1 e; omega
            · rw [if_neg e]; have := atF_rng' hwr (hxb.2.2 e); omega
          conv => whnf
          (repeat' (first | (refine wl_Lg tabOk hb3j rfl rfl rfl rfl rfl rfl rfl (run_l tabOk ?_); conv => whnf) | (refine wl_Xn tabOk 46 4 rfl rfl rfl rfl rfl rfl rfl (by omega) (run_l tabOk ?_); conv => whnf) | (refine wl_La tabOk hcs rfl rfl rfl rfl rfl rfl (run_l tabOk ?_); conv => whnf) | ((first | refine wl_add rfl rfl rfl rfl rfl rfl (by omega) (by omega) (run_l tabOk ?_) | refine wl_sub rfl rfl rfl rfl rfl rfl (by omega) (by omega) (run_l tabOk ?_) | refine gs_dt (by first | assumption | omega) ?_ | refine gs_df (by first | assumption | omega) ?_ | refine gs_t (by assumption) ?_ | refine gs_f (by assumption) ?_ | refine gs_d (fun hg => ?_) (fun hg => ?_) | refine gs_n (fun hg => ?_) (fun hg => ?_) | refine gs_nb (fun hg => ?_) (fun hg => ?_) | refine gs_b (fun hg => ?_) (fun hg => ?_)) <;> conv => whnf) | refine fin1 rfl rfl ?_))
          refine wl_alloc tabOk rfl rfl rfl rfl rfl rfl ?_
          intro g18 wk hn18
          refine run_l tabOk ?_
          conv => whnf
          refine wl_Sa tabOk hn18.blk rfl rfl rfl rfl rfl (by simp [Value.oneCell']) rfl rfl ?_
          intro wl hpl
          have hb18 : wl.heap[g18]? = some (.cells #[.int .u8 x.k, .int .i64 x.a, .int .i64 x.b, .slice Bx x.args.length c] 46 (0, 0)) := hpl.blk
          have hBjl : Below wj.heap.size wj wl := hpl.below hn18.below (by have := hn18.at_; omega) (by have := hn18.size; omega)
          clear hpl hn18
          refine run_l tabOk ?_
          conv => whnf
          (repeat' (first | (refine wl_Lg tabOk hb18 rfl rfl rfl rfl rfl rfl rfl (run_l tabOk ?_); conv => whnf) | ((first | refine wl_add rfl rfl rfl rfl rfl rfl (by omega) (by omega) (run_l tabOk ?_) | refine wl_sub rfl rfl rfl rfl rfl rfl (by omega) (by omega) (run_l tabOk ?_) | refine gs_dt (by first | assumption | omega) ?_ | refine gs_df (by first | assumption | omega) ?_ | refine gs_t (by assumption) ?_ | refine gs_f (by assumption) ?_ | refine gs_d (fun hg => ?_) (fun hg => ?_) | refine gs_n (fun hg => ?_) (fun hg => ?_) | refine gs_nb (fun hg => ?_) (fun hg => ?_) | refine gs_b (fun hg => ?_) (fun hg => ?_)) <;> conv => whnf) | refine fin1 rfl rfl ?_))
          refine wl_alloc tabOk rfl rfl rfl rfl rfl rfl ?_
          intro g19 wm hn19
          refine run_l tabOk ?_
          conv => whnf
          refine wl_Sa tabOk hn19.blk rfl rfl rfl rfl rfl (by simp [Value.oneCell']) rfl rfl ?_
          intro wn hpn
          have hb19 : wn.heap[g19]? = some (.cells #[.int .u8 x.k, .int .i64 (-1), .int .i64 x.b, .slice none 0 0] 46 (0, 0)) := hpn.blk
          have hg19 : wl.heap.size ≤ g19 := by have := hn19.at_; omega
          have hBln : Below wl.heap.size wl wn := hpn.below hn19.below (by have := hn19.at_; omega) (by have := hn19.size; omega)
          have hb18n := blk_up hBln hb18
          clear hpn hn19
          refine run_l tabOk ?_
          conv => whnf
          refine wl_Lg tabOk hb18n rfl rfl rfl rfl rfl rfl rfl (wl_P tabOk rfl rfl rfl rfl (wl_nil ?_))
          refine run_cutw (X := Unit) (fun _ => [(1, .int .u8 r), (5, .pointer (some ⟨g3, 0, none⟩)), (7, .pointer (some ⟨g6, 0, none⟩)), (8, .slice (some ⟨gw, 0, none⟩) n n), (13, .pointer (some ⟨g13, 0, none⟩)), (17, .int .i64 (i : Int)), (18, .pointer (some ⟨g18, 0, none⟩)), (19, .pointer (some ⟨g19, 0, none⟩))]) (fun _ W => Below wl.heap.size wl W ∧ W.heap[g19]? = some (.cells #[.int .u8 y.k, .int .i64 y.a, .int .i64 x.b, .slice none 0 0] 46 (0, 0))) ?_ ?_
          · clear hb18n hb19 hBln
            rintro _ G4 wn ⟨hBln, hb19⟩
            have hb18n := blk_up hBln hb18
            conv => whnf
            refine wl_Lg tabOk hb18n rfl rfl rfl rfl rfl rfl rfl (wl_P tabOk rfl rfl rfl rfl (wl_nil ?_))
            refine run_cutw (X := Unit) (fun _ => [(1, .int .u8 r), (5, .pointer (some ⟨g3, 0, none⟩)), (7, .pointer (some ⟨g6, 0, none⟩)), (8, .slice (some ⟨gw, 0, none⟩) n n), (13, .pointer (some ⟨g13, 0, none⟩)), (17, .int .i64 (i : Int)), (18, .pointer (some ⟨g18, 0, none⟩)), (19, .pointer (some ⟨g19, 0, none⟩))]) (fun _ W => Below wl.heap.size wl W ∧ W.heap[g19]? = some (.cells #[.int .u8 y.k, .int .i64 y.a, .int .i64 y.b, .slice none 0 0] 46 (0, 0))) ?_ ?_
            · clear hb18n hb19 hBln
              rintro _ G4 wn ⟨hBln, hb19⟩
              have hg19n := blk_lt hb19
              have hBjn := bup hBjl hBln
              have hszn := hBln.size
              have hszl := hBjl.size
              rw [← hyk] at hb18
              have hykr : 1 ≤ y.k ∧ y.k ≤ 5 := by rw [hyk]; exact hxk
              conv => whnf
              (repeat' (first | ((first | refine wl_add rfl rfl rfl rfl rfl rfl (by omega) (by omega) (run_l tabOk ?_) | refine wl_sub rfl rfl rfl rfl rfl rfl (by omega) (by omega) (run_l tabOk ?_) | refine gs_dt (by first | assumption | omega) ?_ | refine gs_df (by first | assumption | omega) ?_ | refine gs_t (by assumption) ?_ | refine gs_f (by assumption) ?_ | refine gs_d (fun hg => ?_) (fun hg => ?_) | refine gs_n (fun hg => ?_) (fun hg => ?_) | refine gs_nb (fun hg => ?_) (fun hg => ?_) | refine gs_b (fun hg => ?_) (fun hg => ?_)) <;> conv => whnf) | refine fin1 rfl rfl ?_))
              refine wc_ends 10 (fun _ _ => False) (X := Option Addr × Nat) (fun _ => [(1, .int .u8 r), (5, .pointer (some ⟨g3, 0, none⟩)), (7, .pointer (some ⟨g6, 0, none⟩)), (8, .slice (some ⟨gw, 0, none⟩) n n), (13, .pointer (some ⟨g13, 0, none⟩)), (17, .int .i64 (i : Int)), (18, .pointer (some ⟨g18, 0, none⟩)), (19, .pointer (some ⟨g19, 0, none⟩))]) (fun z wk => Kept [g19] wn wk ∧ wk.heap[g19]? = some (.cells #[.int .u8 y.k, .int .i64 y.a, .int .i64 y.b, .slice z.1 x.args.length z.2] 46 (0, 0)) ∧ GInts wn.heap.size wk (.slice z.1 x.args.length z.2) y.args) ?_ (fun _ _ h => h.elim) ?_
              · refine lp_loop tabOk (X := Nat × Option Addr × Nat) (fun z => [(1, .int .u8 r), (5, .pointer (some ⟨g3, 0, none⟩)), (7, .pointer (some ⟨g6, 0, none⟩)), (8, .slice (some ⟨gw, 0, none⟩) n n), (13, .pointer (some ⟨g13, 0, none⟩)), (17, .int .i64 (i : Int)), (18, .pointer (some ⟨g18, 0, none⟩)), (19, .pointer (some ⟨g19, 0, none⟩)), (20, .int .i64 (z.1 : Int))]) (fun z wk => z.1 ≤ x.args.length ∧ Kept [g19] wn wk ∧ wk.heap[g19]? = some (.cells #[.int .u8 y.k, .int .i64 y.a, .int .i64 y.b, .slice z.2.1 z.1 z.2.2] 46 (0, 0)) ∧ GInts wn.heap.size wk (.slice z.2.1 z.1 z.2.2) ((x.args.take z.1).map (atF wh))) (fun z => x.args.length - z.1) (0, none, 0) ⟨rfl, rfl, rfl, rfl, rfl, rfl, rfl, rfl, rfl, trivial⟩ ⟨by simp, Kept.refl _ _, hb19, by simpa using GRow.nil ..⟩ ?_
                clear hb19
                rintro ⟨k, E, ec⟩ G5 wk ⟨hk, hkk, hb19, hE⟩
                simp only at hk hb19 hE
                have hBk : Below wl.heap.size wl wk := hkk.below hBln hBln.size (fun k hk => by simp at hk; subst hk; exact hg19)
                have hBjk := bup hBjl hBk
                have hb18k := blk_up hBk hb18
                by_cases hkl : k < x.args.length
                · obtain ⟨z, ad3, ⟨hz⟩, e4, hzc, _, _⟩ := intsE (hRB.up (stays_I _) hBjk) k hkl
                  subst e4
                  have hzm : z ∈ x.args := by rw [← hz, getElem!_pos x.args k hkl]; exact List.getElem_mem hkl
                  have hzr := hxr z hzm
                  have hzr2 := atF_rng' hwr hzr.2
                  have hlk : ((x.args.take k).map (atF wh)).length = k := by simp; omega
                  have hnk : (x.args.take (k + 1)).map (atF wh) = (x.args.take k).map (atF wh) ++ [atF wh z] := by rw [List.take_add_one, List.getElem?_eq_getElem hkl, List.map_append, ← hz, getElem!_pos x.args k hkl]; rfl
                  have hszk := hkk.size
                  have hzc2 : (z < 0 ∧ atF wh z = -1) ∨ ∃ zv : Nat, z = zv ∧ zv < n ∧ atF wh z = wh zv := by
                    unfold atF
                    by_cases e : z < 0
                    · exact .inl ⟨e, if_pos e⟩
                    · exact .inr ⟨z.toNat, by omega, by omega, if_neg e⟩
                  rcases hzc2 with ⟨hz0, hat⟩ | ⟨zv, hz0, hz1, hat⟩
                  case' inl =>
                    rw [hat] at hnk hzr2
                    conv => whnf
                    (repeat' (first | (refine wl_Lg tabOk hb18k rfl rfl rfl rfl rfl rfl rfl (run_l tabOk ?_); conv => whnf) | (refine wl_Lg tabOk hb19 rfl rfl rfl rfl rfl rfl rfl (run_l tabOk ?_); conv => whnf) | (refine wl_L tabOk rfl rfl rfl rfl rfl rfl hzc (run_l tabOk ?_); conv => whnf) | (refine wl_Xn tabOk 3 1 rfl rfl rfl rfl rfl rfl rfl (by omega) (run_l tabOk ?_); conv => whnf) | ((first | refine wl_add rfl rfl rfl rfl rfl rfl (by omega) (by omega) (run_l tabOk ?_) | refine wl_sub rfl rfl rfl rfl rfl rfl (by omega) (by omega) (run_l tabOk ?_) | refine gs_dt (by first | assumption | omega) ?_ | refine gs_df (by first | assumption | omega) ?_ | refine gs_t (by assumption) ?_ | refine gs_f (by assumption) ?_ | refine gs_d (fun hg => ?_) (fun hg => ?_) | refine gs_n (fun hg => ?_) (fun hg => ?_) | refine gs_nb (fun hg => ?_) (fun hg => ?_) | refine gs_b (fun hg => ?_) (fun hg => ?_)) <;> conv => whnf) | refine fin1 rfl rfl ?_))
                  case' inr =>
                    have cwz := cW wk (bup hBj hBjk) zv hz1
                    rw [← hat] at cwz
                    have hzc0 := hzc
                    rw [hz0] at hzc0
                    conv => whnf
                    (repeat' (first | (refine wl_Lg tabOk hb18k rfl rfl rfl rfl rfl rfl rfl (run_l tabOk ?_); conv => whnf) | (refine wl_Lg tabOk hb19 rfl rfl rfl rfl rfl rfl rfl (run_l tabOk ?_); conv => whnf) | (refine wl_L tabOk rfl rfl rfl rfl rfl rfl hzc0 (run_l tabOk ?_); conv => whnf) | (refine wl_L tabOk rfl rfl rfl rfl rfl rfl cwz (run_l tabOk ?_); conv => whnf) | (refine wl_Xn tabOk 3 1 rfl rfl rfl rfl rfl rfl rfl (by omega) (run_l tabOk ?_); conv => whnf) | ((first | refine wl_add rfl rfl rfl rfl rfl rfl (by omega) (by omega) (run_l tabOk ?_) | refine wl_sub rfl rfl rfl rfl rfl rfl (by omega) (by omega) (run_l tabOk ?_) | refine gs_dt (by first | assumption | omega) ?_ | refine gs_df (by first | assumption | omega) ?_ | refine gs_t (by assumption) ?_ | refine gs_f (by assumption) ?_ | refine gs_d (fun hg => ?_) (fun hg => ?_) | refine gs_n (fun hg => ?_) (fun hg => ?_) | refine gs_nb (fun hg => ?_) (fun hg => ?_) | refine gs_b (fun hg => ?_) (fun hg => ?_)) <;> conv => whnf) | refine fin1 rfl rfl ?_))
                  all_goals
                    refine wl_bs tabOk 3 1 rfl rfl rfl rfl rfl rfl rfl rfl rfl rfl ?_
                    intro gn wf hnf
                    have hbn := hnf.blk
                    have hEf := hE.below hnf.below
                    have hb19f := blk_up hnf.below hb19
                    have hkf := hkk.up hnf.below
                    have hszf := hnf.size
                    clear hnf
                    refine run_l tabOk ?_
                    conv => whnf
                    obtain ⟨flat, o1, o2⟩ := hEf.own
                    rw [hlk] at o1
                    refine wl_ap tabOk 3 1 8 o1 hbn rfl rfl rfl rfl rfl rfl rfl rfl rfl rfl rfl rfl (by simp [Value.oneCell']) (by omega) (by omega) (by omega) ?_
                    intro E2 ec2 W8 hown hgr hob
                    have hE8 := gints_push hEf (flat := flat) (fun w' _ => by have := o2 w' (by simp); exact this) (by rw [hlk]; exact hown) hgr hob ⟨by omega, by omega⟩
                    rw [← hnk] at hE8
                    have hb198 : W8.heap[g19]? = _ := (hgr.block g19 (blk_lt hb19f) (fun e => by have := (hE.olt g19 e.symm).1; omega)).trans hb19f
                    have hk8 := hkf.grown hgr (fun g e => .inr (hE.olt g e).1)
                    refine run_l tabOk ?_
                    conv => whnf
                    refine wl_S (off := 3) (v := .slice E2 (k + 1) ec2) tabOk hb198 rfl rfl rfl rfl rfl rfl (by simp) rfl rfl ?_
                    intro W9 hp9
                    have hE9 := hE8.other hp9.grown (by simp) (fun q hq => by have := (hE8.olt q hq).1; omega)
                    have hk9 := hk8.put hp9 (.inl (by simp))
                    refine run_l tabOk ?_
                    conv => whnf
                    (repeat' (first | ((first | refine wl_add rfl rfl rfl rfl rfl rfl (by omega) (by omega) (run_l tabOk ?_) | refine wl_sub rfl rfl rfl rfl rfl rfl (by omega) (by omega) (run_l tabOk ?_) | refine gs_dt (by first | assumption | omega) ?_ | refine gs_df (by first | assumption | omega) ?_ | refine gs_t (by assumption) ?_ | refine gs_f (by assumption) ?_ | refine gs_d (fun hg => ?_) (fun hg => ?_) | refine gs_n (fun hg => ?_) (fun hg => ?_) | refine gs_nb (fun hg => ?_) (fun hg => ?_) | refine gs_b (fun hg => ?_) (fun hg => ?_)) <;> conv => whnf) | refine fin1 rfl rfl ?_))
                    exact ⟨(k + 1, E2, ec2), ⟨rfl, rfl, rfl, rfl, rfl, rfl, rfl, rfl, rfl, trivial⟩, ⟨by simp only; omega, hk9, hp9.blk, hE9⟩, by simp only; omega⟩
                · have hkl2 : k = x.args.length := by omega
                  rw [hkl2, List.take_length, ← hyr] at hE
                  rw [hkl2] at hb19
                  conv => whnf
                  (repeat' (first | (refine wl_Lg tabOk hb18k rfl rfl rfl rfl rfl rfl rfl (run_l tabOk ?_); conv => whnf) | ((first | refine wl_add rfl rfl rfl rfl rfl rfl (by omega) (by omega) (run_l tabOk ?_) | refine wl_sub rfl rfl rfl rfl rfl rfl (by omega) (by omega) (run_l tabOk ?_) | refine gs_dt (by first | assumption | omega) ?_ | refine gs_df (by first | assumption | omega) ?_ | refine gs_t (by assumption) ?_ | refine gs_f (by assumption) ?_ | refine gs_d (fun hg => ?_) (fun hg => ?_) | refine gs_n (fun hg => ?_) (fun hg => ?_) | refine gs_nb (fun hg => ?_) (fun hg => ?_) | refine gs_b (fun hg => ?_) (fun hg => ?_)) <;> conv => whnf) | refine fin1 rfl rfl ?_))
                  exact ⟨rfl, (E, ec), ⟨rfl, rfl, rfl, rfl, rfl, rfl, rfl, rfl, trivial⟩, hkk, hb19, hE⟩
              · clear hb19
                rintro ⟨E, ec⟩ G5 wq ⟨hkq, hb19, hE⟩
                simp only at hb19 hE
                have hBq : Below wl.heap.size wl wq := hkq.below hBln hBln.size (fun k hk => by simp at hk; subst hk; exact hg19)
                have hBjq := bup hBjl hBq
                have hb18q := blk_up hBq hb18
                have hb13q := blk_up hBjq hb13
                have hrwq := hrw.below hBjq
                have hkq2 := hkj.up hBjq
                have hszq := hkq.size
                obtain ⟨em, hem⟩ : ∃ em, em = emptyC y := ⟨_, rfl⟩
                clear hkq hBln hBjn hb18 hBq hBjl hcs hRB
                refine run_cutw (X := Unit) (fun _ => [(1, .int .u8 r), (5, .pointer (some ⟨g3, 0, none⟩)), (7, .pointer (some ⟨g6, 0, none⟩)), (8, .slice (some ⟨gw, 0, none⟩) n n), (13, .pointer (some ⟨g13, 0, none⟩)), (17, .int .i64 (i : Int)), (19, .pointer (some ⟨g19, 0, none⟩)), (22, .bool em)]) (fun _ W => W = wq) ?_ ?_
                · rintro _ G6 w' rfl
                  have hcr := fun (W : World) (hb : Below w'.heap.size w' W) => (hrwq.below hb).rowAt.2.2
                  conv => whnf
                  (repeat' (first | ((first | refine wl_add rfl rfl rfl rfl rfl rfl (by omega) (by omega) (run_l tabOk ?_) | refine wl_sub rfl rfl rfl rfl rfl rfl (by omega) (by omega) (run_l tabOk ?_) | refine gs_dt (by first | assumption | omega) ?_ | refine gs_df (by first | assumption | omega) ?_ | refine gs_t (by assumption) ?_ | refine gs_f (by assumption) ?_ | refine gs_d (fun hg => ?_) (fun hg => ?_) | refine gs_n (fun hg => ?_) (fun hg => ?_) | refine gs_nb (fun hg => ?_) (fun hg => ?_) | refine gs_b (fun hg => ?_) (fun hg => ?_)) <;> conv => whnf) | refine fin1 rfl rfl ?_))
                  refine wc_ends 12 (fun _ _ => False) (X := Bool) (fun b => [(1, .int .u8 r), (5, .pointer (some ⟨g3, 0, none⟩)), (7, .pointer (some ⟨g6, 0, none⟩)), (8, .slice (some ⟨gw, 0, none⟩) n n), (13, .pointer (some ⟨g13, 0, none⟩)), (17, .int .i64 (i : Int)), (19, .pointer (some ⟨g19, 0, none⟩)), (22, .bool b)]) (fun b W => b = (em || inC out y) ∧ Below w'.heap.size w' W) ?_ (fun _ _ h => h.elim) ?_
                  · refine lp_loop tabOk (X := Nat × Bool) (fun z => [(1, .int .u8 r), (5, .pointer (some ⟨g3, 0, none⟩)), (7, .pointer (some ⟨g6, 0, none⟩)), (8, .slice (some ⟨gw, 0, none⟩) n n), (13, .pointer (some ⟨g13, 0, none⟩)), (17, .int .i64 (i : Int)), (19, .pointer (some ⟨g19, 0, none⟩)), (22, .bool z.2), (23, .int .i64 (z.1 : Int))]) (fun z W => z.1 ≤ out.length ∧ z.2 = (em || inC (out.take z.1) y) ∧ Below w'.heap.size w' W) (fun z => out.length - z.1) (0, em) ⟨rfl, rfl, rfl, rfl, rfl, rfl, rfl, rfl, rfl, trivial⟩ ⟨by simp, by simp [inC], Below.refl _ _⟩ ?_
                    rintro ⟨k, b⟩ G7 W ⟨hk, hbe, hBW⟩
                    simp only at hk hbe
                    have hb13W := blk_up hBW hb13q
                    have hb19W := blk_up hBW hb19
                    have hEW := hE.below hBW
                    by_cases hkl : k < out.length
                    · obtain ⟨z, ad3, Bz, cz, ⟨hz⟩, e3, hcz, hlz, ⟨hRz⟩, _, _, _, _⟩ := consE (hcr W hBW) k hkl
                      subst e3
                      have hnb : (em || inC (out.take (k + 1)) y) = (b || eqC y z) := by rw [inC_next hkl, hz, hbe, Bool.or_assoc]
                      conv => whnf
                      (repeat' (first | (refine wl_Lg tabOk hb13W rfl rfl rfl rfl rfl rfl rfl (run_l tabOk ?_); conv => whnf) | (refine wl_Xn tabOk 46 4 rfl rfl rfl rfl rfl rfl rfl (by omega) (run_l tabOk ?_); conv => whnf) | (refine wl_La tabOk hcz rfl rfl rfl rfl rfl rfl (run_l tabOk ?_); conv => whnf) | ((first | refine wl_add rfl rfl rfl rfl rfl rfl (by omega) (by omega) (run_l tabOk ?_) | refine wl_sub rfl rfl rfl rfl rfl rfl (by omega) (by omega) (run_l tabOk ?_) | refine gs_dt (by first | assumption | omega) ?_ | refine gs_df (by first | assumption | omega) ?_ | refine gs_t (by assumption) ?_ | refine gs_f (by assumption) ?_ | refine gs_d (fun hg => ?_) (fun hg => ?_) | refine gs_n (fun hg => ?_) (fun hg => ?_) | refine gs_nb (fun hg => ?_) (fun hg => ?_) | refine gs_b (fun hg => ?_) (fun hg => ?_)) <;> conv => whnf) | refine fin1 rfl rfl ?_))
                      refine wl_alloc tabOk rfl rfl rfl rfl rfl rfl ?_
                      intro g24 wa hn24
                      refine run_l tabOk ?_
                      conv => whnf
                      refine wl_Sa tabOk hn24.blk rfl rfl rfl rfl rfl (by simp [Value.oneCell']) rfl rfl ?_
                      intro wb hpb
                      have hb24 : wb.heap[g24]? = some (.cells #[.int .u8 z.k, .int .i64 z.a, .int .i64 z.b, .slice Bz z.args.length cz] 46 (0, 0)) := hpb.blk
                      have hBWb : Below W.heap.size W wb := hpb.below hn24.below (by have := hn24.at_; omega) (by have := hn24.size; omega)
                      have hb19b := blk_up hBWb hb19W
                      clear hpb hn24
                      refine run_l tabOk ?_
                      have hcase : b = true ∨ (b = false ∧ ¬ z.k = y.k ∧ eqC y z = false) ∨ (b = false ∧ z.k = y.k ∧ ¬ z.a = y.a ∧ eqC y z = false) ∨ (b = false ∧ z.k = y.k ∧ z.a = y.a ∧ ¬ z.b = y.b ∧ eqC y z = false) ∨ (b = false ∧ z.k = y.k ∧ z.a = y.a ∧ z.b = y.b ∧ eqC y z = sameI z.args y.args) := by
                        cases b with
                        | true => exact .inl rfl
                        | false =>
                          by_cases h1 : z.k = y.k
                          · by_cases h2 : z.a = y.a
                            · by_cases h3 : z.b = y.b
                              · refine .inr (.inr (.inr (.inr ⟨rfl, h1, h2, h3, ?_⟩)))
                                rw [Bool.eq_iff_iff, eqC_iff, sameI_iff]
                                constructor
                                · rintro rfl; rfl
                                · intro h4
                                  cases y
                                  cases z
                                  simp only at h1 h2 h3 h4
                                  rw [h1, h2, h3, h4]
                              · exact .inr (.inr (.inr (.inl ⟨rfl, h1, h2, h3, Bool.eq_false_iff.2 fun h => h3 (by rw [eqC_iff.1 h])⟩)))
                            · exact .inr (.inr (.inl ⟨rfl, h1, h2, Bool.eq_false_iff.2 fun h => h2 (by rw [eqC_iff.1 h])⟩))
                          · exact .inr (.inl ⟨rfl, h1, Bool.eq_false_iff.2 fun h => h1 (by rw [eqC_iff.1 h])⟩)
                      rcases hcase with hb | ⟨hb, q1, qe⟩ | ⟨hb, q1, q2, qe⟩ | ⟨hb, q1, q2, q3, qe⟩ | ⟨hb, q1, q2, q3, qe⟩
                      · rw [hb] at hnb ⊢
                        rw [Bool.true_or] at hnb
                        conv => whnf
                        (repeat' (first | (refine wl_Lg tabOk hb24 rfl rfl rfl rfl rfl rfl rfl (run_l tabOk ?_); conv => whnf) | (refine wl_Lg tabOk hb19b rfl rfl rfl rfl rfl rfl rfl (run_l tabOk ?_); conv => whnf) | ((first | refine wl_add rfl rfl rfl rfl rfl rfl (by omega) (by omega) (run_l tabOk ?_) | refine wl_sub rfl rfl rfl rfl rfl rfl (by omega) (by omega) (run_l tabOk ?_) | refine gs_dt (by first | assumption | omega) ?_ | refine gs_df (by first | assumption | omega) ?_ | refine gs_t (by assumption) ?_ | refine gs_f (by assumption) ?_ | refine gs_d (fun hg => ?_) (fun hg => ?_) | refine gs_n (fun hg => ?_) (fun hg => ?_) | refine gs_nb (fun hg => ?_) (fun hg => ?_) | refine gs_b (fun hg => ?_) (fun hg => ?_)) <;> conv => whnf) | refine fin1 rfl rfl ?_))
                        exact ⟨(k + 1, true), ⟨rfl, rfl, rfl, rfl, rfl, rfl, rfl, rfl, rfl, trivial⟩, ⟨by simp only; omega, hnb.symm, bup hBW hBWb⟩, by simp only; omega⟩
                      · rw [hb] at hnb ⊢
                        rw [qe] at hnb
                        conv => whnf
                        (repeat' (first | (refine wl_Lg tabOk hb24 rfl rfl rfl rfl rfl rfl rfl (run_l tabOk ?_); conv => whnf) | (refine wl_Lg tabOk hb19b rfl rfl rfl rfl rfl rfl rfl (run_l tabOk ?_); conv => whnf) | ((first | refine wl_add rfl rfl rfl rfl rfl rfl (by omega) (by omega) (run_l tabOk ?_) | refine wl_sub rfl rfl rfl rfl rfl rfl (by omega) (by omega) (run_l tabOk ?_) | refine gs_dt (by first | assumption | omega) ?_ | refine gs_df (by first | assumption | omega) ?_ | refine gs_t (by assumption) ?_ | refine gs_f (by assumption) ?_ | refine gs_d (fun hg => ?_) (fun hg => ?_) | refine gs_n (fun hg => ?_) (fun hg => ?_) | refine gs_nb (fun hg => ?_) (fun hg => ?_) | refine gs_b (fun hg => ?_) (fun hg => ?_)) <;> conv => whnf) | refine fin1 rfl rfl ?_))
                        exact ⟨(k + 1, false), ⟨rfl, rfl, rfl, rfl, rfl, rfl, rfl, by first | rfl | exact congrArg Value.bool (decide_eq_false q1), rfl, trivial⟩, ⟨by simp only; omega, hnb.symm, bup hBW hBWb⟩, by simp only; omega⟩
                      · rw [hb] at hnb ⊢
                        rw [qe] at hnb
                        conv => whnf
                        (repeat' (first | (refine wl_Lg tabOk hb24 rfl rfl rfl rfl rfl rfl rfl (run_l tabOk ?_); conv => whnf) | (refine wl_Lg tabOk hb19b rfl rfl rfl rfl rfl rfl rfl (run_l tabOk ?_); conv => whnf) | ((first | refine wl_add rfl rfl rfl rfl rfl rfl (by omega) (by omega) (run_l tabOk ?_) | refine wl_sub rfl rfl rfl rfl rfl rfl (by omega) (by omega) (run_l tabOk ?_) | refine gs_dt (by first | assumption | omega) ?_ | refine gs_df (by first | assumption | omega) ?_ | refine gs_t (by assumption) ?_ | refine gs_f (by assumption) ?_ | refine gs_d (fun hg => ?_) (fun hg => ?_) | refine gs_n (fun hg => ?_) (fun hg => ?_) | refine gs_nb (fun hg => ?_) (fun hg => ?_) | refine gs_b (fun hg => ?_) (fun hg => ?_)) <;> conv => whnf) | refine fin1 rfl rfl ?_))
                        exact ⟨(k + 1, false), ⟨rfl, rfl, rfl, rfl, rfl, rfl, rfl, by first | rfl | exact congrArg Value.bool (decide_eq_false q2), rfl, trivial⟩, ⟨by simp only; omega, hnb.symm, bup hBW hBWb⟩, by simp only; omega⟩
                      · rw [hb] at hnb ⊢
                        rw [qe] at hnb
                        conv => whnf
                        (repeat' (first | (refine wl_Lg tabOk hb24 rfl rfl rfl rfl rfl rfl rfl (run_l tabOk ?_); conv => whnf) | (refine wl_Lg tabOk hb19b rfl rfl rfl rfl rfl rfl rfl (run_l tabOk ?_); conv => whnf) | ((first | refine wl_add rfl rfl rfl rfl rfl rfl (by omega) (by omega) (run_l tabOk ?_) | refine wl_sub rfl rfl rfl rfl rfl rfl (by omega) (by omega) (run_l tabOk ?_) | refine gs_dt (by first | assumption | omega) ?_ | refine gs_df (by first | assumption | omega) ?_ | refine gs_t (by assumption) ?_ | refine gs_f (by assumption) ?_ | refine gs_d (fun hg => ?_) (fun hg => ?_) | refine gs_n (fun hg => ?_) (fun hg => ?_) | refine gs_nb (fun hg => ?_) (fun hg => ?_) | refine gs_b (fun hg => ?_) (fun hg => ?_)) <;> conv => whnf) | refine fin1 rfl rfl ?_))
                        exact ⟨(k + 1, false), ⟨rfl, rfl, rfl, rfl, rfl, rfl, rfl, by first | rfl | exact congrArg Value.bool (decide_eq_false q3), rfl, trivial⟩, ⟨by simp only; omega, hnb.symm, bup hBW hBWb⟩, by simp only; omega⟩
                      · rw [hb] at hnb ⊢
                        rw [qe] at hnb
                        have hsi := refSameInts z.args y.args Bz E cz ec wb (hRz.up (stays_I _) hBWb) (hEW.below hBWb).rowAt.2.2
                        rw [hyl] at hsi
                        conv => whnf
                        (repeat' (first | (refine wl_Lg tabOk hb24 rfl rfl rfl rfl rfl rfl rfl (run_l tabOk ?_); conv => whnf) | (refine wl_Lg tabOk hb19b rfl rfl rfl rfl rfl rfl rfl (run_l tabOk ?_); conv => whnf) | ((first | refine wl_add rfl rfl rfl rfl rfl rfl (by omega) (by omega) (run_l tabOk ?_) | refine wl_sub rfl rfl rfl rfl rfl rfl (by omega) (by omega) (run_l tabOk ?_) | refine gs_dt (by first | assumption | omega) ?_ | refine gs_df (by first | assumption | omega) ?_ | refine gs_t (by assumption) ?_ | refine gs_f (by assumption) ?_ | refine gs_d (fun hg => ?_) (fun hg => ?_) | refine gs_n (fun hg => ?_) (fun hg => ?_) | refine gs_nb (fun hg => ?_) (fun hg => ?_) | refine gs_b (fun hg => ?_) (fun hg => ?_)) <;> conv => whnf) | refine fin1 rfl rfl ?_))
                        refine wl_C fn29 hsi rfl rfl rfl rfl rfl rfl rfl ?_
                        rintro _ wc ⟨rfl, hBc⟩
                        refine ⟨_, rfl, run_l tabOk ?_⟩
                        conv => whnf
                        (repeat' (first | ((first | refine wl_add rfl rfl rfl rfl rfl rfl (by omega) (by omega) (run_l tabOk ?_) | refine wl_sub rfl rfl rfl rfl rfl rfl (by omega) (by omega) (run_l tabOk ?_) | refine gs_dt (by first | assumption | omega) ?_ | refine gs_df (by first | assumption | omega) ?_ | refine gs_t (by assumption) ?_ | refine gs_f (by assumption) ?_ | refine gs_d (fun hg => ?_) (fun hg => ?_) | refine gs_n (fun hg => ?_) (fun hg => ?_) | refine gs_nb (fun hg => ?_) (fun hg => ?_) | refine gs_b (fun hg => ?_) (fun hg => ?_)) <;> conv => whnf) | refine fin1 rfl rfl ?_))
                        exact ⟨(k + 1, sameI z.args y.args), ⟨rfl, rfl, rfl, rfl, rfl, rfl, rfl, rfl, rfl, trivial⟩, ⟨by simp only; omega, hnb.symm, bup hBW (bup hBWb hBc)⟩, by simp only; omega⟩
                    · have hkl2 : k = out.length := by omega
                      rw [hkl2, List.take_length] at hbe
                      conv => whnf
                      (repeat' (first | (refine wl_Lg tabOk hb13W rfl rfl rfl rfl rfl rfl rfl (run_l tabOk ?_); conv => whnf) | ((first | refine wl_add rfl rfl rfl rfl rfl rfl (by omega) (by omega) (run_l tabOk ?_) | refine wl_sub rfl rfl rfl rfl rfl rfl (by omega) (by omega) (run_l tabOk ?_) | refine gs_dt (by first | assumption | omega) ?_ | refine gs_df (by first | assumption | omega) ?_ | refine gs_t (by assumption) ?_ | refine gs_f (by assumption) ?_ | refine gs_d (fun hg => ?_) (fun hg => ?_) | refine gs_n (fun hg => ?_) (fun hg => ?_) | refine gs_nb (fun hg => ?_) (fun hg => ?_) | refine gs_b (fun hg => ?_) (fun hg => ?_)) <;> conv => whnf) | refine fin1 rfl rfl ?_))
                      exact ⟨rfl, b, ⟨rfl, rfl, rfl, rfl, rfl, rfl, rfl, rfl, trivial⟩, hbe, hBW⟩
                  · rintro b G7 W ⟨hbe, hBW⟩
                    have hb13W := blk_up hBW hb13q
                    have hb19W := blk_up hBW hb19
                    have hEW := hE.below hBW
                    have hrwW := hrwq.below hBW
                    have hkW := hkq2.up hBW
                    have hszW := hBW.size
                    have hcase : (r = 0 ∧ less = false) ∨ (¬ r = 0 ∧ less = true) := by
                      rw [hless]
                      by_cases e : r = 0
                      · exact .inl ⟨e, by simp [e]⟩
                      · exact .inr ⟨e, by simp [e]⟩
                    have hst0 : less = false ∨ b = false → shN wh less (ys.take (i + 1)) = out ++ [y] := fun h => by
                      rw [hnx]
                      unfold shStep
                      rw [← hy, ← hem, ← hbe]
                      rcases h with h | h <;> rw [h] <;> simp
                    have hst1 : less = true → b = true → shN wh less (ys.take (i + 1)) = out := fun h h2 => by
                      rw [hnx]
                      unfold shStep
                      rw [← hy, ← hem, ← hbe, h, h2]
                      rfl
                    have hbc : b = true ∨ b = false := by cases b <;> simp
                    have hc3 : (¬ r = 0 ∧ b = true ∧ less = true) ∨ (r = 0 ∧ (less = false ∨ b = false)) ∨ (¬ r = 0 ∧ b = false ∧ (less = false ∨ b = false)) := by
                      rcases hcase with ⟨e, h⟩ | ⟨e, h⟩
                      · exact .inr (.inl ⟨e, .inl h⟩)
                      · rcases hbc with h2 | h2
                        · exact .inl ⟨e, h2, h⟩
                        · exact .inr (.inr ⟨e, h2, .inr h2⟩)
                    rcases hc3 with ⟨e, h2, h⟩ | ⟨e, h⟩ | ⟨e, h2, h⟩
                    · have hst := hst1 h h2
                      rw [h2]
                      conv => whnf
                      (repeat' (first | ((first | refine wl_add rfl rfl rfl rfl rfl rfl (by omega) (by omega) (run_l tabOk ?_) | refine wl_sub rfl rfl rfl rfl rfl rfl (by omega) (by omega) (run_l tabOk ?_) | refine gs_dt (by first | assumption | omega) ?_ | refine gs_df (by first | assumption | omega) ?_ | refine gs_t (by assumption) ?_ | refine gs_f (by assumption) ?_ | refine gs_d (fun hg => ?_) (fun hg => ?_) | refine gs_n (fun hg => ?_) (fun hg => ?_) | refine gs_nb (fun hg => ?_) (fun hg => ?_) | refine gs_b (fun hg => ?_) (fun hg => ?_)) <;> conv => whnf) | refine fin1 rfl rfl ?_))
                      exact ⟨(i + 1, D4, d4), ⟨rfl, rfl, rfl, rfl, rfl, rfl, trivial⟩, ⟨by simp only; omega, bs2, hkW, by simp only [hst]; exact hb13W, by simp only [hst]; exact hrwW⟩, by simp only; omega⟩
                    all_goals
                      have hst := hst0 h
                      (try rw [h2])
                      conv => whnf
                      (repeat' (first | (refine wl_Lg tabOk hb13W rfl rfl rfl rfl rfl rfl rfl (run_l tabOk ?_); conv => whnf) | (refine wl_Lag tabOk hb19W rfl rfl rfl rfl rfl rfl (run_l tabOk ?_); conv => whnf) | ((first | refine wl_add rfl rfl rfl rfl rfl rfl (by omega) (by omega) (run_l tabOk ?_) | refine wl_sub rfl rfl rfl rfl rfl rfl (by omega) (by omega) (run_l tabOk ?_) | refine gs_dt (by first | assumption | omega) ?_ | refine gs_df (by first | assumption | omega) ?_ | refine gs_t (by assumption) ?_ | refine gs_f (by assumption) ?_ | refine gs_d (fun hg => ?_) (fun hg => ?_) | refine gs_n (fun hg => ?_) (fun hg => ?_) | refine gs_nb (fun hg => ?_) (fun hg => ?_) | refine gs_b (fun hg => ?_) (fun hg => ?_)) <;> conv => whnf) | refine fin1 rfl rfl ?_))
                      refine wl_bs tabOk 46 4 rfl rfl rfl rfl rfl rfl rfl rfl rfl rfl ?_
                      intro gn wf hnf
                      have hbn := hnf.blk
                      have hb13f := blk_up hnf.below hb13W
                      have hEf := hEW.below hnf.below
                      have hrwf := hrwW.below hnf.below
                      have hkf := hkW.up hnf.below
                      have hszf := hnf.size
                      clear hnf
                      refine run_l tabOk ?_
                      conv => whnf
                      obtain ⟨flat, o1, o2⟩ := hrwf.own
                      refine wl_ap tabOk 46 4 48 o1 hbn rfl rfl rfl rfl rfl rfl rfl rfl rfl rfl rfl rfl (by simp [Value.oneCell']) (by omega) (by omega) (by omega) ?_
                      intro E2 ec2 wg hown hgr hob
                      refine run_l tabOk ?_
                      conv => whnf
                      have hrwg := hrwf.push (x := y) (bs' := (Value.slice E x.args.length ec).ownBlock.toList) o2 hown hgr hob rfl (fun w' hw' => dCon_of hEf y.k y.a y.b ⟨by omega, by omega⟩ ⟨by omega, by omega⟩ ⟨by omega, by omega⟩ w' hw') (fun b hb => by have := hEf.olt b (mem_own hb); exact ⟨by omega, this.2⟩) (fun b hb e => by
                        have h3 := (hEf.olt b (mem_own hb)).1
                        have h4 := (hrw.olt b e.symm).2
                        omega)
                      have hb13g : wg.heap[g13]? = _ := (hgr.block g13 (blk_lt hb13f) (fun e => by have := (hrw.olt g13 e.symm).1; omega)).trans hb13f
                      refine wl_S (off := 2) (v := .slice E2 (out.length + 1) ec2) tabOk hb13g rfl rfl rfl rfl rfl rfl (by simp) rfl rfl ?_
                      intro wh9 hp9
                      have hrw9 := hrwg.other hp9.grown (fun b hb => by
                        rcases List.mem_append.1 hb with hb | hb
                        · have := (hrw.lt b hb).1; omega
                        · have := (hEf.olt b (mem_own hb)).1; omega) (fun k hk => by have := (hrwg.olt k hk).1; omega)
                      have hk9 := (hkf.grown hgr (fun g e => .inr (hrw.olt g e).1)).put hp9 (.inl (by simp))
                      have hl9 : (out ++ [y]).length = out.length + 1 := by simp
                      refine run_l tabOk ?_
                      conv => whnf
                      (repeat' (first | ((first | refine wl_add rfl rfl rfl rfl rfl rfl (by omega) (by omega) (run_l tabOk ?_) | refine wl_sub rfl rfl rfl rfl rfl rfl (by omega) (by omega) (run_l tabOk ?_) | refine gs_dt (by first | assumption | omega) ?_ | refine gs_df (by first | assumption | omega) ?_ | refine gs_t (by assumption) ?_ | refine gs_f (by assumption) ?_ | refine gs_d (fun hg => ?_) (fun hg => ?_) | refine gs_n (fun hg => ?_) (fun hg => ?_) | refine gs_nb (fun hg => ?_) (fun hg => ?_) | refine gs_b (fun hg => ?_) (fun hg => ?_)) <;> conv => whnf) | refine fin1 rfl rfl ?_))
                      exact ⟨(i + 1, E2, ec2), ⟨rfl, rfl, rfl, rfl, rfl, rfl, trivial⟩, ⟨by simp only; omega, _, hk9, by simp only [hst, hl9]; exact hp9.blk, by simp only [hst, hl9]; exact hrw9⟩, by simp only; omega⟩
                · intro yv hyv
                  have hec := emptyC_cases (y := y) (fun e => by rw [hyb, if_pos (by omega)]; exact hxb.1)
                  rw [← hem] at hec
                  rcases hec with ⟨q1, he⟩ | ⟨q1, q2, q3, he⟩ | ⟨q1, q2, q3, q4, q5, he⟩ | ⟨q1, q2, q3, q4, q5, he⟩ | ⟨q1, q2, q3, q4, he⟩ | ⟨q1, q2, q3, he⟩
                  all_goals
                    conv => whnf
                    (repeat' (first | (refine wl_Lg tabOk hb18q rfl rfl rfl rfl rfl rfl rfl (run_l tabOk ?_); conv => whnf) | (refine wl_Lg tabOk hb19 rfl rfl rfl rfl rfl rfl rfl (run_l tabOk ?_); conv => whnf) | ((first | refine wl_add rfl rfl rfl rfl rfl rfl (by omega) (by omega) (run_l tabOk ?_) | refine wl_sub rfl rfl rfl rfl rfl rfl (by omega) (by omega) (run_l tabOk ?_) | refine gs_dt (by first | assumption | omega) ?_ | refine gs_df (by first | assumption | omega) ?_ | refine gs_t (by assumption) ?_ | refine gs_f (by assumption) ?_ | refine gs_d (fun hg => ?_) (fun hg => ?_) | refine gs_n (fun hg => ?_) (fun hg => ?_) | refine gs_nb (fun hg => ?_) (fun hg => ?_) | refine gs_b (fun hg => ?_) (fun hg => ?_)) <;> conv => whnf) | refine fin1 rfl rfl ?_))
                    refine hyv () _ _ ⟨rfl, rfl, rfl, rfl, rfl, rfl, rfl, ?_, trivial⟩ rfl
                    rw [he]
                    first
                      | rfl
                      | exact congrArg Value.bool (decide_eq_true (by first | assumption | omega))
                      | exact congrArg Value.bool (decide_eq_false (by first | assumption | omega))
            · intro yv hyv
              by_cases hk1 : x.k = 1
              · rw [if_pos hk1] at hyb
                rw [← hyb] at hb19
                conv => whnf
                (repeat' (first | ((first | refine wl_add rfl rfl rfl rfl rfl rfl (by omega) (by omega) (run_l tabOk ?_) | refine wl_sub rfl rfl rfl rfl rfl rfl (by omega) (by omega) (run_l tabOk ?_) | refine gs_dt (by first | assumption | omega) ?_ | refine gs_df (by first | assumption | omega) ?_ | refine gs_t (by assumption) ?_ | refine gs_f (by assumption) ?_ | refine gs_d (fun hg => ?_) (fun hg => ?_) | refine gs_n (fun hg => ?_) (fun hg => ?_) | refine gs_nb (fun hg => ?_) (fun hg => ?_) | refine gs_b (fun hg => ?_) (fun hg => ?_)) <;> conv => whnf) | refine fin1 rfl rfl ?_))
                exact hyv () _ _ ⟨rfl, rfl, rfl, rfl, rfl, rfl, rfl, rfl, trivial⟩ ⟨hBln, hb19⟩
              · rw [if_neg hk1] at hyb
                obtain ⟨bv, hbv⟩ := Int.eq_ofNat_of_zero_le hxb.1
                have hbn := hxb.2.2 hk1
                have hatb : atF wh x.b = wh bv := by unfold atF; rw [if_neg (by omega), hbv]; rfl
                have cwb := cW wn (bup hBj (bup hBjl hBln)) bv (by omega)
                rw [← hatb, ← hyb] at cwb
                rw [hbv] at hb18n
                conv => whnf
                (repeat' (first | (refine wl_Lg tabOk hb18n rfl rfl rfl rfl rfl rfl rfl (run_l tabOk ?_); conv => whnf) | (refine wl_L tabOk rfl rfl rfl rfl rfl rfl cwb (run_l tabOk ?_); conv => whnf) | (refine wl_Xn tabOk 3 1 rfl rfl rfl rfl rfl rfl rfl (by omega) (run_l tabOk ?_); conv => whnf) | ((first | refine wl_add rfl rfl rfl rfl rfl rfl (by omega) (by omega) (run_l tabOk ?_) | refine wl_sub rfl rfl rfl rfl rfl rfl (by omega) (by omega) (run_l tabOk ?_) | refine gs_dt (by first | assumption | omega) ?_ | refine gs_df (by first | assumption | omega) ?_ | refine gs_t (by assumption) ?_ | refine gs_f (by assumption) ?_ | refine gs_d (fun hg => ?_) (fun hg => ?_) | refine gs_n (fun hg => ?_) (fun hg => ?_) | refine gs_nb (fun hg => ?_) (fun hg => ?_) | refine gs_b (fun hg => ?_) (fun hg => ?_)) <;> conv => whnf) | refine fin1 rfl rfl ?_))
                refine wl_S (off := 2) (v := .int .i64 y.b) tabOk hb19 rfl rfl rfl rfl rfl rfl (by simp) rfl rfl ?_
                intro wp hpp
                refine run_l tabOk ?_
                conv => whnf
                exact hyv () _ _ ⟨rfl, rfl, rfl, rfl, rfl, rfl, rfl, rfl, trivial⟩ ⟨hpp.below hBln hg19 hBln.size, hpp.blk⟩
          · intro yv hyv
            rw [← hyk] at hb19
            by_cases ha : 0 ≤ x.a
            · obtain ⟨av, hav⟩ := Int.eq_ofNat_of_zero_le ha
              have hata : atF wh x.a = wh av := by unfold atF; rw [if_neg (by omega), hav]; rfl
              have cwa := cW wn (bup hBj (bup hBjl hBln)) av (by omega)
              rw [← hata, ← hya] at cwa
              rw [hav] at hb18n
              conv => whnf
              (repeat' (first | (refine wl_Lg tabOk hb18n rfl rfl rfl rfl rfl rfl rfl (run_l tabOk ?_); conv => whnf) | (refine wl_L tabOk rfl rfl rfl rfl rfl rfl cwa (run_l tabOk ?_); conv => whnf) | (refine wl_Xn tabOk 3 1 rfl rfl rfl rfl rfl rfl rfl (by omega) (run_l tabOk ?_); conv => whnf) | ((first | refine wl_add rfl rfl rfl rfl rfl rfl (by omega) (by omega) (run_l tabOk ?_) | refine wl_sub rfl rfl rfl rfl rfl rfl (by omega) (by omega) (run_l tabOk ?_) | refine gs_dt (by first | assumption | omega) ?_ | refine gs_df (by first | assumption | omega) ?_ | refine gs_t (by assumption) ?_ | refine gs_f (by assumption) ?_ | refine gs_d (fun hg => ?_) (fun hg => ?_) | refine gs_n (fun hg => ?_) (fun hg => ?_) | refine gs_nb (fun hg => ?_) (fun hg => ?_) | refine gs_b (fun hg => ?_) (fun hg => ?_)) <;> conv => whnf) | refine fin1 rfl rfl ?_))
              refine wl_S (off := 1) (v := .int .i64 y.a) tabOk hb19 rfl rfl rfl rfl rfl rfl (by simp) rfl rfl ?_
              intro wp hpp
              refine run_l tabOk ?_
              conv => whnf
              exact hyv () _ _ ⟨rfl, rfl, rfl, rfl, rfl, rfl, rfl, rfl, trivial⟩ ⟨hpp.below hBln hg19 hBln.size, hpp.blk⟩
            · have hay : y.a = -1 := by rw [hya]; unfold atF; rw [if_pos (by omega)]
              rw [← hay] at hb19
              conv => whnf
              (repeat' (first | ((first | refine wl_add rfl rfl rfl rfl rfl rfl (by omega) (by omega) (run_l tabOk ?_) | refine wl_sub rfl rfl rfl rfl rfl rfl (by omega) (by omega) (run_l tabOk ?_) | refine gs_dt (by first | assumption | omega) ?_ | refine gs_df (by first | assumption | omega) ?_ | refine gs_t (by assumption) ?_ | refine gs_f (by assumption) ?_ | refine gs_d (fun hg => ?_) (fun hg => ?_) | refine gs_n (fun hg => ?_) (fun hg => ?_) | refine gs_nb (fun hg => ?_) (fun hg => ?_) | refine gs_b (fun hg => ?_) (fun hg => ?_)) <;> conv => whnf) | refine fin1 rfl rfl ?_))
              exact hyv () _ _ ⟨rfl, rfl, rfl, rfl, rfl, rfl, rfl, rfl, trivial⟩ ⟨hBln, hb19⟩
        · have hil2 : i = ys.length := by omega
          rw [hil2, List.take_length] at hrw hb13
          conv => whnf
          (repeat' (first | (refine wl_Lg tabOk hb3j rfl rfl rfl rfl rfl rfl rfl (run_l tabOk ?_); conv => whnf) | ((first | refine wl_add rfl rfl rfl rfl rfl rfl (by omega) (by omega) (run_l tabOk ?_) | refine wl_sub rfl rfl rfl rfl rfl rfl (by omega) (by omega) (run_l tabOk ?_) | refine gs_dt (by first | assumption | omega) ?_ | refine gs_df (by first | assumption | omega) ?_ | refine gs_t (by assumption) ?_ | refine gs_f (by assumption) ?_ | refine gs_d (fun hg => ?_) (fun hg => ?_) | refine gs_n (fun hg => ?_) (fun hg => ?_) | refine gs_nb (fun hg => ?_) (fun hg => ?_) | refine gs_b (fun hg => ?_) (fun hg => ?_)) <;> conv => whnf) | refine fin1 rfl rfl ?_))
          exact ⟨rfl, (D4, d4), ⟨rfl, rfl, rfl, rfl, rfl, trivial⟩, bs2, hkj, hb13, hrw⟩
      · clear hb13
        rintro ⟨D4, d4⟩ G3 W ⟨bs2, hkW, hb13, hrw⟩
        simp only at hb13 hrw
        have hBW : Below w9.heap.size w9 W := hkW.below hBT hBT.size (fun k hk => by simp at hk; subst hk; exact hg13.1)
        have hbtW := blk_up hBW hbt
        have k1 := hrow.reads W fun b hb => by
          have : wS.heap.size ≤ b ∧ b < wT.heap.size := by
            rcases List.mem_append.1 hb with hb | hb
            · exact hrow.lt b hb
            · exact hrow.olt b (mem_own hb)
          exact hkW.block b this.2 (by simp; omega)
        have hsame := refSame ⟨cnt, xs.map (shC wh), shN wh less ys⟩ ⟨cnt, xs.map (shC wh), shN wh less ys⟩ D1 D2 D3 D4 d1 d2 d3 d4 W (ht1.up stays_Cell hBW) (ht2.up stays_Con hBW) k1 hrw.rowAt.2.2
        rw [sameSys_refl] at hsame
        simp only [List.length_map] at hsame
        conv => whnf
        (repeat' (first | (refine wl_Lag tabOk hbtW rfl rfl rfl rfl rfl rfl (run_l tabOk ?_); conv => whnf) | (refine wl_Lag tabOk hb13 rfl rfl rfl rfl rfl rfl (run_l tabOk ?_); conv => whnf) | ((first | refine wl_add rfl rfl rfl rfl rfl rfl (by omega) (by omega) (run_l tabOk ?_) | refine wl_sub rfl rfl rfl rfl rfl rfl (by omega) (by omega) (run_l tabOk ?_) | refine gs_dt (by first | assumption | omega) ?_ | refine gs_df (by first | assumption | omega) ?_ | refine gs_t (by assumption) ?_ | refine gs_f (by assumption) ?_ | refine gs_d (fun hg => ?_) (fun hg => ?_) | refine gs_n (fun hg => ?_) (fun hg => ?_) | refine gs_nb (fun hg => ?_) (fun hg => ?_) | refine gs_b (fun hg => ?_) (fun hg => ?_)) <;> conv => whnf) | refine fin1 rfl rfl ?_))
        refine wl_C fn30 hsame rfl rfl rfl rfl rfl rfl rfl ?_
        rintro _ wz ⟨rfl, hBz⟩
        refine ⟨_, rfl, run_l tabOk ?_⟩
        conv => whnf
        (repeat' (first | ((first | refine wl_add rfl rfl rfl rfl rfl rfl (by omega) (by omega) (run_l tabOk ?_) | refine wl_sub rfl rfl rfl rfl rfl rfl (by omega) (by omega) (run_l tabOk ?_) | refine gs_dt (by first | assumption | omega) ?_ | refine gs_df (by first | assumption | omega) ?_ | refine gs_t (by assumption) ?_ | refine gs_f (by assumption) ?_ | refine gs_d (fun hg => ?_) (fun hg => ?_) | refine gs_n (fun hg => ?_) (fun hg => ?_) | refine gs_nb (fun hg => ?_) (fun hg => ?_) | refine gs_b (fun hg => ?_) (fun hg => ?_)) <;> conv => whnf) | refine fin1 rfl rfl ?_))
        exact ⟨rfl, bup hBw (bup hBW hBz)⟩
end Go.Proofs.Ytjggjhgbobmkhaa
