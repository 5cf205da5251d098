/- The walk of ShrinkLabels. -/
import Derived.Test.YtjggjhgbobmkhaaB20
import Derived.Test.YtjggjhgbobmkhaaB21
namespace Go.Proofs.Ytjggjhgbobmkhaa
open Go.RowKit
set_option linter.unusedVariables false
set_option linter.unusedSimpArgs false
set_option maxRecDepth 100000

set_option maxHeartbeats 16000000 in
theorem lawShrinkLabels (d : Draft) (A : Option Addr) (c : Nat) (mode : Int) (w : World) (h : RActs w A d.acts) (hk : (0 ≤ d.vars ∧ d.vars ≤ 255) ∧ 0 ≤ d.cells ∧ d.cells ≤ 255) (hm : 0 ≤ mode ∧ mode ≤ 255) :
    Calls Try.prog 8 #[.agg #[.int .u8 d.vars, .int .u8 d.cells, .slice A d.acts.length c], .int .u8 mode] w fun e w' => e = .returned (.bool true) ∧ Below w.heap.size w w' := by
  refine enterR (args := [.agg #[.int .u8 d.vars, .int .u8 d.cells, .slice A d.acts.length c], .int .u8 mode]) tabOk Try.func8 rfl Try.ntmps8 rfl ?_; conv => whnf
  refine wl_box rfl rfl rfl rfl rfl rfl ?_
  intro g1 w1 hn1
  refine run_l tabOk ?_
  conv => whnf
  refine wl_C fn25 (awake19 _) rfl rfl rfl rfl rfl rfl rfl ?_
  rintro _ w2 ⟨rfl, hB2⟩
  have hb := blk_up hB2 hn1.blk
  have hB := bup hn1.below hB2
  refine ⟨_, rfl, run_l tabOk ?_⟩
  conv => whnf
  by_cases hbig : 40 < d.acts.length
  · (repeat' (first | (refine wl_Lg tabOk hb rfl rfl rfl rfl rfl rfl rfl (run_l tabOk ?_); conv => whnf) | ((first | refine wl_add rfl rfl rfl rfl rfl rfl (by omega) (by omega) (run_l tabOk ?_) | refine wl_sub rfl rfl rfl rfl rfl rfl (by omega) (by omega) (run_l tabOk ?_) | refine wl_cvA tabOk rfl rfl rfl (by simp only [inK]; omega) rfl rfl rfl (run_l tabOk ?_) | refine wl_cvB tabOk rfl rfl rfl rfl rfl rfl (run_l tabOk ?_) | refine wl_rem rfl rfl rfl rfl rfl rfl (by omega) (by omega) (fun r hr hr0 hr1 hr2 => run_l tabOk ?_) | refine wl_quo rfl rfl rfl rfl rfl rfl (by omega) (by omega) (by simp only [inK]; omega) (run_l tabOk ?_) | refine wl_mul rfl rfl rfl rfl rfl rfl (by omega) (by omega) (run_l tabOk ?_) | refine gs_dt (by first | assumption | omega) ?_ | refine gs_df (by first | assumption | omega) ?_ | refine gs_t (by assumption) ?_ | refine gs_f (by assumption) ?_ | refine gs_d (fun hg => ?_) (fun hg => ?_) | refine gs_n (fun hg => ?_) (fun hg => ?_) | refine gs_nb (fun hg => ?_) (fun hg => ?_) | refine gs_b (fun hg => ?_) (fun hg => ?_)) <;> conv => whnf) | refine fin1 rfl rfl ?_))
    refine wl_C fn25 (awake19 _) rfl rfl rfl rfl rfl rfl rfl ?_
    rintro _ w3 ⟨rfl, hB3⟩
    refine ⟨_, rfl, run_l tabOk ?_⟩
    conv => whnf
    (repeat' (first | ((first | refine wl_add rfl rfl rfl rfl rfl rfl (by omega) (by omega) (run_l tabOk ?_) | refine wl_sub rfl rfl rfl rfl rfl rfl (by omega) (by omega) (run_l tabOk ?_) | refine wl_cvA tabOk rfl rfl rfl (by simp only [inK]; omega) rfl rfl rfl (run_l tabOk ?_) | refine wl_cvB tabOk rfl rfl rfl rfl rfl rfl (run_l tabOk ?_) | refine wl_rem rfl rfl rfl rfl rfl rfl (by omega) (by omega) (fun r hr hr0 hr1 hr2 => run_l tabOk ?_) | refine wl_quo rfl rfl rfl rfl rfl rfl (by omega) (by omega) (by simp only [inK]; omega) (run_l tabOk ?_) | refine wl_mul rfl rfl rfl rfl rfl rfl (by omega) (by omega) (run_l tabOk ?_) | refine gs_dt (by first | assumption | omega) ?_ | refine gs_df (by first | assumption | omega) ?_ | refine gs_t (by assumption) ?_ | refine gs_f (by assumption) ?_ | refine gs_d (fun hg => ?_) (fun hg => ?_) | refine gs_n (fun hg => ?_) (fun hg => ?_) | refine gs_nb (fun hg => ?_) (fun hg => ?_) | refine gs_b (fun hg => ?_) (fun hg => ?_)) <;> conv => whnf) | refine fin1 rfl rfl ?_))
    exact ⟨rfl, bup hB hB3⟩
  (repeat' (first | (refine wl_Lg tabOk hb rfl rfl rfl rfl rfl rfl rfl (run_l tabOk ?_); conv => whnf) | (refine wl_Lag tabOk hb rfl rfl rfl rfl rfl rfl (run_l tabOk ?_); conv => whnf) | ((first | refine wl_add rfl rfl rfl rfl rfl rfl (by omega) (by omega) (run_l tabOk ?_) | refine wl_sub rfl rfl rfl rfl rfl rfl (by omega) (by omega) (run_l tabOk ?_) | refine wl_cvA tabOk rfl rfl rfl (by simp only [inK]; omega) rfl rfl rfl (run_l tabOk ?_) | refine wl_cvB tabOk rfl rfl rfl rfl rfl rfl (run_l tabOk ?_) | refine wl_rem rfl rfl rfl rfl rfl rfl (by omega) (by omega) (fun r hr hr0 hr1 hr2 => run_l tabOk ?_) | refine wl_quo rfl rfl rfl rfl rfl rfl (by omega) (by omega) (by simp only [inK]; omega) (run_l tabOk ?_) | refine wl_mul rfl rfl rfl rfl rfl rfl (by omega) (by omega) (run_l tabOk ?_) | refine gs_dt (by first | assumption | omega) ?_ | refine gs_df (by first | assumption | omega) ?_ | refine gs_t (by assumption) ?_ | refine gs_f (by assumption) ?_ | refine gs_d (fun hg => ?_) (fun hg => ?_) | refine gs_n (fun hg => ?_) (fun hg => ?_) | refine gs_nb (fun hg => ?_) (fun hg => ?_) | refine gs_b (fun hg => ?_) (fun hg => ?_)) <;> conv => whnf) | refine fin1 rfl rfl ?_))
  refine wl_C fn15 (refMake d A c w2 (h.up stays_Act hB) hk.1 hk.2) rfl rfl rfl rfl rfl rfl rfl ?_
  rintro _ w3 ⟨s, va, vb', bs, cs, rfl, hB3, hM⟩
  have hright := hM.right
  have hvars := hM.vars
  obtain ⟨A1, c1, rfl, _, hr1⟩ := hM.cells.row
  obtain ⟨A2, c2, rfl, _, hr2⟩ := hM.cons.row
  have hB03 := bup hB hB3
  clear hM hb hB2 hn1
  obtain ⟨vars, xs, ys⟩ := s
  simp only at hright hvars hr1 hr2
  obtain ⟨n, rfl⟩ : ∃ n : Nat, vars = n := ⟨vars.toNat, by omega⟩
  have hn12 : n ≤ 12 := by omega
  refine ⟨_, rfl, run_l tabOk ?_⟩
  conv => whnf
  refine wl_alloc tabOk rfl rfl rfl rfl rfl rfl ?_
  intro g3 w4 hn4
  refine run_l tabOk ?_
  conv => whnf
  refine wl_Sa tabOk hn4.blk rfl rfl rfl rfl rfl (by simp [Value.oneCell']) rfl rfl ?_
  intro w5 hp5
  have hB5 : Below w3.heap.size w3 w5 := hp5.below hn4.below (by have := hn4.at_; omega) (by have := hn4.size; omega)
  have hb3 : w5.heap[g3]? = some (.cells #[.int .i64 n, .slice A1 xs.length c1, .slice A2 ys.length c2] 29 (0, 0)) := hp5.blk
  have hs1 := hr1.up stays_Cell hB5
  have hs2 := hr2.up stays_Con hB5
  have hB05 := bup hB03 hB5
  have hnn := right_few hright
  clear hp5 hn4 hB03 hB5 hB3 hr1 hr2 hbig
  refine run_l tabOk ?_
  conv => whnf
  (repeat' (first | (refine wl_Lag tabOk hb3 rfl rfl rfl rfl rfl rfl (run_l tabOk ?_); conv => whnf) | ((first | refine wl_add rfl rfl rfl rfl rfl rfl (by omega) (by omega) (run_l tabOk ?_) | refine wl_sub rfl rfl rfl rfl rfl rfl (by omega) (by omega) (run_l tabOk ?_) | refine wl_cvA tabOk rfl rfl rfl (by simp only [inK]; omega) rfl rfl rfl (run_l tabOk ?_) | refine wl_cvB tabOk rfl rfl rfl rfl rfl rfl (run_l tabOk ?_) | refine wl_rem rfl rfl rfl rfl rfl rfl (by omega) (by omega) (fun r hr hr0 hr1 hr2 => run_l tabOk ?_) | refine wl_quo rfl rfl rfl rfl rfl rfl (by omega) (by omega) (by simp only [inK]; omega) (run_l tabOk ?_) | refine wl_mul rfl rfl rfl rfl rfl rfl (by omega) (by omega) (run_l tabOk ?_) | refine gs_dt (by first | assumption | omega) ?_ | refine gs_df (by first | assumption | omega) ?_ | refine gs_t (by assumption) ?_ | refine gs_f (by assumption) ?_ | refine gs_d (fun hg => ?_) (fun hg => ?_) | refine gs_n (fun hg => ?_) (fun hg => ?_) | refine gs_nb (fun hg => ?_) (fun hg => ?_) | refine gs_b (fun hg => ?_) (fun hg => ?_)) <;> conv => whnf) | refine fin1 rfl rfl ?_))
  refine wl_C fn26 (shLabels n xs ys A1 A2 c1 c2 mode w5 hright hs1 hs2) rfl rfl rfl rfl rfl rfl rfl ?_
  rintro _ w6 ⟨gL, lab, rfl, hL, hLM, hB6⟩
  have hb3 := blk_up hB6 hb3
  have hs1 := hs1.up stays_Cell hB6
  have hs2 := hs2.up stays_Con hB6
  have hB06 := bup hB05 hB6
  clear hB6 hB05
  refine ⟨_, rfl, run_l tabOk ?_⟩
  conv => whnf
  (repeat' (first | (refine wl_Lg tabOk hb3 rfl rfl rfl rfl rfl rfl rfl (run_l tabOk ?_); conv => whnf) | (refine wl_Lag tabOk hb3 rfl rfl rfl rfl rfl rfl (run_l tabOk ?_); conv => whnf) | ((first | refine wl_add rfl rfl rfl rfl rfl rfl (by omega) (by omega) (run_l tabOk ?_) | refine wl_sub rfl rfl rfl rfl rfl rfl (by omega) (by omega) (run_l tabOk ?_) | refine wl_cvA tabOk rfl rfl rfl (by simp only [inK]; omega) rfl rfl rfl (run_l tabOk ?_) | refine wl_cvB tabOk rfl rfl rfl rfl rfl rfl (run_l tabOk ?_) | refine wl_rem rfl rfl rfl rfl rfl rfl (by omega) (by omega) (fun r hr hr0 hr1 hr2 => run_l tabOk ?_) | refine wl_quo rfl rfl rfl rfl rfl rfl (by omega) (by omega) (by simp only [inK]; omega) (run_l tabOk ?_) | refine wl_mul rfl rfl rfl rfl rfl rfl (by omega) (by omega) (run_l tabOk ?_) | refine gs_dt (by first | assumption | omega) ?_ | refine gs_df (by first | assumption | omega) ?_ | refine gs_t (by assumption) ?_ | refine gs_f (by assumption) ?_ | refine gs_d (fun hg => ?_) (fun hg => ?_) | refine gs_n (fun hg => ?_) (fun hg => ?_) | refine gs_nb (fun hg => ?_) (fun hg => ?_) | refine gs_b (fun hg => ?_) (fun hg => ?_)) <;> conv => whnf) | refine fin1 rfl rfl ?_))
  refine wl_C fn17 (graphOfR n xs ys A1 A2 c1 c2 w6 hs1 hs2 hright) rfl rfl rfl rfl rfl rfl rfl ?_
  rintro _ w7 ⟨A', B', C', rfl, k1, k2, k3, hB7⟩
  have hG : GOk n (gInto n xs ys) (gBases n xs ys) (gLoose n xs ys) := gok hright
  have hni : (gInto n xs ys).length = 2 * n := hG.ni
  refine ⟨_, rfl, run_l tabOk ?_⟩
  conv => whnf
  have hlab := oLabels n (gInto n xs ys) (gBases n xs ys) (gLoose n xs ys) A' B' C' (2 * n) n (2 * n) w7 hG k1 k2 k3
  rw [hni, hG.nb, hG.nl] at hlab
  refine wl_C fn24 hlab rfl rfl rfl rfl rfl rfl rfl ?_
  rintro _ w8 ⟨kn, of, ga, hK, rfl, hR, hB8⟩
  have hB78 := bup hB7 hB8
  have hb3 := blk_up hB78 hb3
  have hs1 := hs1.up stays_Cell hB78
  have hs2 := hs2.up stays_Con hB78
  have hL := hL.up (stays_I _) hB78
  have hB08 := bup hB06 hB78
  clear hB78 hB7 hB8 hB06 hlab k1 k2 k3
  refine ⟨_, rfl, run_l tabOk ?_⟩
  conv => whnf
  (repeat' (first | ((first | refine wl_add rfl rfl rfl rfl rfl rfl (by omega) (by omega) (run_l tabOk ?_) | refine wl_sub rfl rfl rfl rfl rfl rfl (by omega) (by omega) (run_l tabOk ?_) | refine wl_cvA tabOk rfl rfl rfl (by simp only [inK]; omega) rfl rfl rfl (run_l tabOk ?_) | refine wl_cvB tabOk rfl rfl rfl rfl rfl rfl (run_l tabOk ?_) | refine wl_rem rfl rfl rfl rfl rfl rfl (by omega) (by omega) (fun r hr hr0 hr1 hr2 => run_l tabOk ?_) | refine wl_quo rfl rfl rfl rfl rfl rfl (by omega) (by omega) (by simp only [inK]; omega) (run_l tabOk ?_) | refine wl_mul rfl rfl rfl rfl rfl rfl (by omega) (by omega) (run_l tabOk ?_) | refine gs_dt (by first | assumption | omega) ?_ | refine gs_df (by first | assumption | omega) ?_ | refine gs_t (by assumption) ?_ | refine gs_f (by assumption) ?_ | refine gs_d (fun hg => ?_) (fun hg => ?_) | refine gs_n (fun hg => ?_) (fun hg => ?_) | refine gs_nb (fun hg => ?_) (fun hg => ?_) | refine gs_b (fun hg => ?_) (fun hg => ?_)) <;> conv => whnf) | refine fin1 rfl rfl ?_))
  refine wc_qx [0, 2, 3, 4] 1 5 (stable_Bw _) tabOk mixed (by kernel_rfl) (Below.refl _ _) ?_; (conv => whnf)
  (repeat' (first | (refine wq_Lg tabOk hb3 rfl rfl rfl rfl rfl rfl rfl (run_q tabOk ?_); conv => whnf) | (refine wq_Lag tabOk hb3 rfl rfl rfl rfl rfl rfl (run_q tabOk ?_); conv => whnf) | ((first | refine wq_add rfl rfl rfl rfl rfl rfl (by omega) (by omega) (run_q tabOk ?_) | refine wq_sub rfl rfl rfl rfl rfl rfl (by omega) (by omega) (run_q tabOk ?_) | refine wq_cvA tabOk rfl rfl rfl (by simp only [inK]; omega) rfl rfl rfl (run_q tabOk ?_) | refine wq_cvB tabOk rfl rfl rfl rfl rfl rfl (run_q tabOk ?_) | refine wq_rem rfl rfl rfl rfl rfl rfl (by omega) (by omega) (fun r hr hr0 hr1 hr2 => run_q tabOk ?_) | refine wq_quo rfl rfl rfl rfl rfl rfl (by omega) (by omega) (by simp only [inK]; omega) (run_q tabOk ?_) | refine wq_mul rfl rfl rfl rfl rfl rfl (by omega) (by omega) (run_q tabOk ?_) | refine gs_dt (by first | assumption | omega) ?_ | refine gs_df (by first | assumption | omega) ?_ | refine gs_t (by assumption) ?_ | refine gs_f (by assumption) ?_ | refine gs_d (fun hg => ?_) (fun hg => ?_) | refine gs_n (fun hg => ?_) (fun hg => ?_) | refine gs_nb (fun hg => ?_) (fun hg => ?_) | refine gs_b (fun hg => ?_) (fun hg => ?_)) <;> conv => whnf)))
  intro w9 _ hB9
  conv => whnf
  refine And.intro ?_ trivial
  conv => whnf
  refine wb_C fn17 (graphOfR n xs ys A1 A2 c1 c2 w9 (hs1.up stays_Cell hB9) (hs2.up stays_Con hB9) hright) rfl rfl rfl rfl rfl rfl ?_
  rintro _ w10 ⟨A', B', C', rfl, k1, k2, k3, hB10⟩
  refine ⟨_, rfl, bup hB9 hB10, fun w11 hB11 _ => ?_⟩
  conv => whnf
  have k1 := k1.up stays_Ints hB11
  have k2 := k2.up stays_Ints hB11
  have k3 := k3.up stays_B hB11
  refine wl_C fn16 (huLabelsR (n := n) (xs := xs) (ys := ys) A' B' C' w11 hright k1 k2 k3) rfl rfl rfl rfl rfl rfl rfl ?_
  rintro _ w12 ⟨gh, hl, rfl, hrow, hcan, hB12⟩
  have hBB := bup (bup hB9 hB10) (bup hB11 hB12)
  have hb3 := blk_up hBB hb3
  have hL := hL.up (stays_I _) hBB
  have hR := hR.up (stays_I _) hBB
  have hBw := bup hB08 hBB
  clear k1 k2 k3 hB9 hB10 hB11 hB12 hB08 hBB hs1 hs2
  obtain ⟨la, hla⟩ : ∃ la : Nat → Int, la = fun v => (labN n (gInto n xs ys) (gBases n xs ys) (gLoose n xs ys) kn of kn.length).lab (of v) := ⟨_, rfl⟩
  rw [← hla] at hR
  have rdI : ∀ {g : Nat} {f : Nat → Int}, RI w12 (some ⟨g, 0, none⟩) ((List.range n).map f) → ∀ wi, Below w12.heap.size w12 wi → ∀ v, v < n → wi.cell? ((⟨g, 0, none⟩ : Addr).add (v * 1)) = some (.int .i64 (f v)) := fun {g f} h wi hb v hv => by
    obtain ⟨z, ad, ⟨hz⟩, e, hc, _, _⟩ := intsE h v (by simpa using hv)
    injection e with e
    subst e
    have hz : z = f v := by rw [← hz]; simp [hv]
    subst hz
    exact cell_up hb hc
  have cL := rdI hL
  have cR := rdI hR
  have cH : ∀ wi, Below w12.heap.size w12 wi → ∀ v, v < n → wi.cell? ((⟨gh, 0, none⟩ : Addr).add (v * 1)) = some (.int .i64 (hl v)) := fun wi hb v hv => by
    rw [Nat.mul_one, add_zero]
    exact cell_up hb (cell_blk hrow (by simpa using fZ_get hv))
  have s1 : mode = 1 → ∀ v u, v < n → u < n → (lab v = lab u ↔ la v = la u) := fun hm v u hv hu => by
    obtain ⟨kn2, of2, hK2, hq⟩ := hLM.ovs hm
    rw [hq v hv, hq u hu, hla]
    exact lch_same hG hK2 (lch_of hG hK2) (lch_of hG hK) v u (by omega) (by omega)
  have s2 : mode = 2 → ∀ v u, v < n → u < n → (lab v = lab u ↔ hl v = hl u) := fun hm v u hv hu => ((hLM.hu hm).same v u hv hu).trans (hcan.same v u hv hu).symm
  have s3 := hLM.plain
  clear hLM hcan hrow hR hL hla hG hK rdI
  refine ⟨_, rfl, run_l tabOk ?_⟩
  conv => whnf
  (repeat' (first | ((first | refine wl_add rfl rfl rfl rfl rfl rfl (by omega) (by omega) (run_l tabOk ?_) | refine wl_sub rfl rfl rfl rfl rfl rfl (by omega) (by omega) (run_l tabOk ?_) | refine wl_cvA tabOk rfl rfl rfl (by simp only [inK]; omega) rfl rfl rfl (run_l tabOk ?_) | refine wl_cvB tabOk rfl rfl rfl rfl rfl rfl (run_l tabOk ?_) | refine wl_rem rfl rfl rfl rfl rfl rfl (by omega) (by omega) (fun r hr hr0 hr1 hr2 => run_l tabOk ?_) | refine wl_quo rfl rfl rfl rfl rfl rfl (by omega) (by omega) (by simp only [inK]; omega) (run_l tabOk ?_) | refine wl_mul rfl rfl rfl rfl rfl rfl (by omega) (by omega) (run_l tabOk ?_) | refine gs_dt (by first | assumption | omega) ?_ | refine gs_df (by first | assumption | omega) ?_ | refine gs_t (by assumption) ?_ | refine gs_f (by assumption) ?_ | refine gs_d (fun hg => ?_) (fun hg => ?_) | refine gs_n (fun hg => ?_) (fun hg => ?_) | refine gs_nb (fun hg => ?_) (fun hg => ?_) | refine gs_b (fun hg => ?_) (fun hg => ?_)) <;> conv => whnf) | refine fin1 rfl rfl ?_))
  refine lp_loop tabOk (X := Nat) (fun v => [(1, .int .u8 mode), (5, .pointer (some ⟨g3, 0, none⟩)), (6, .slice (some ⟨gL, 0, none⟩) n n), (7, .slice (some ⟨ga, 0, none⟩) n n), (8, .slice (some ⟨gh, 0, none⟩) n n), (9, .int .i64 (v : Int))]) (fun v wi => v ≤ n ∧ Below w12.heap.size w12 wi) (fun v => n - v) 0 ⟨rfl, rfl, rfl, rfl, rfl, rfl, trivial⟩ ⟨by omega, Below.refl _ _⟩ ?_
  rintro v G2 wi ⟨hv, hBi⟩
  have hb3i := blk_up hBi hb3
  by_cases hvn : v < n
  · conv => whnf
    (repeat' (first | (refine wl_Lg tabOk hb3i rfl rfl rfl rfl rfl rfl rfl (run_l tabOk ?_); conv => whnf) | ((first | refine wl_add rfl rfl rfl rfl rfl rfl (by omega) (by omega) (run_l tabOk ?_) | refine wl_sub rfl rfl rfl rfl rfl rfl (by omega) (by omega) (run_l tabOk ?_) | refine wl_cvA tabOk rfl rfl rfl (by simp only [inK]; omega) rfl rfl rfl (run_l tabOk ?_) | refine wl_cvB tabOk rfl rfl rfl rfl rfl rfl (run_l tabOk ?_) | refine wl_rem rfl rfl rfl rfl rfl rfl (by omega) (by omega) (fun r hr hr0 hr1 hr2 => run_l tabOk ?_) | refine wl_quo rfl rfl rfl rfl rfl rfl (by omega) (by omega) (by simp only [inK]; omega) (run_l tabOk ?_) | refine wl_mul rfl rfl rfl rfl rfl rfl (by omega) (by omega) (run_l tabOk ?_) | refine gs_dt (by first | assumption | omega) ?_ | refine gs_df (by first | assumption | omega) ?_ | refine gs_t (by assumption) ?_ | refine gs_f (by assumption) ?_ | refine gs_d (fun hg => ?_) (fun hg => ?_) | refine gs_n (fun hg => ?_) (fun hg => ?_) | refine gs_nb (fun hg => ?_) (fun hg => ?_) | refine gs_b (fun hg => ?_) (fun hg => ?_)) <;> conv => whnf) | refine fin1 rfl rfl ?_))
    refine wc_ends 2 (fun _ _ => False) (X := Unit) (fun _ => [(1, .int .u8 mode), (5, .pointer (some ⟨g3, 0, none⟩)), (6, .slice (some ⟨gL, 0, none⟩) n n), (7, .slice (some ⟨ga, 0, none⟩) n n), (8, .slice (some ⟨gh, 0, none⟩) n n), (9, .int .i64 (v : Int))]) (fun _ wk => Below w12.heap.size w12 wk) ?_ (fun _ _ h => h.elim) ?_
    · refine lp_loop tabOk (X := Nat) (fun u => [(1, .int .u8 mode), (5, .pointer (some ⟨g3, 0, none⟩)), (6, .slice (some ⟨gL, 0, none⟩) n n), (7, .slice (some ⟨ga, 0, none⟩) n n), (8, .slice (some ⟨gh, 0, none⟩) n n), (9, .int .i64 (v : Int)), (10, .int .i64 (u : Int))]) (fun u wk => u ≤ v ∧ Below w12.heap.size w12 wk) (fun u => v - u) 0 ⟨rfl, rfl, rfl, rfl, rfl, rfl, rfl, trivial⟩ ⟨by omega, hBi⟩ ?_
      rintro u G3 wk ⟨hu, hBk⟩
      by_cases huv : u < v
      · have hun : u < n := by omega
        have l1 := cL wk hBk v hvn
        have l2 := cL wk hBk u hun
        have a1 := cR wk hBk v hvn
        have a2 := cR wk hBk u hun
        have b1 := cH wk hBk v hvn
        have b2 := cH wk hBk u hun
        by_cases hm1 : mode = 1
        · have hd : decide (lab v = lab u) = decide (la v = la u) := decide_eq_decide.2 (s1 hm1 v u hvn hun)
          have hbe3 : (!(decide (lab v = lab u) == decide (la v = la u))) = false := by rw [hd]; simp
          have hbe4 : (decide (lab v = lab u) != decide (la v = la u)) = false := by rw [hd]; simp
          conv => whnf
          (repeat' (first | ((first | refine wl_add rfl rfl rfl rfl rfl rfl (by omega) (by omega) (run_l tabOk ?_) | refine wl_sub rfl rfl rfl rfl rfl rfl (by omega) (by omega) (run_l tabOk ?_) | refine wl_cvA tabOk rfl rfl rfl (by simp only [inK]; omega) rfl rfl rfl (run_l tabOk ?_) | refine wl_cvB tabOk rfl rfl rfl rfl rfl rfl (run_l tabOk ?_) | refine wl_rem rfl rfl rfl rfl rfl rfl (by omega) (by omega) (fun r hr hr0 hr1 hr2 => run_l tabOk ?_) | refine wl_quo rfl rfl rfl rfl rfl rfl (by omega) (by omega) (by simp only [inK]; omega) (run_l tabOk ?_) | refine wl_mul rfl rfl rfl rfl rfl rfl (by omega) (by omega) (run_l tabOk ?_) | refine gs_dt (by first | assumption | omega) ?_ | refine gs_df (by first | assumption | omega) ?_ | refine gs_t (by assumption) ?_ | refine gs_f (by assumption) ?_ | refine gs_d (fun hg => ?_) (fun hg => ?_) | refine gs_n (fun hg => ?_) (fun hg => ?_) | refine gs_nb (fun hg => ?_) (fun hg => ?_) | refine gs_b (fun hg => ?_) (fun hg => ?_)) <;> conv => whnf) | refine fin1 rfl rfl ?_))
          refine wc_qr tabOk mixed (by kernel_rfl) ?_; conv => whnf
          (repeat' (first | (refine wq_L tabOk rfl rfl rfl rfl rfl rfl a1 (run_q tabOk ?_); conv => whnf) | (refine wq_L tabOk rfl rfl rfl rfl rfl rfl a2 (run_q tabOk ?_); conv => whnf) | (refine wq_Xn tabOk 3 1 rfl rfl rfl rfl rfl rfl rfl (by omega) (run_q tabOk ?_); conv => whnf) | ((first | refine wq_add rfl rfl rfl rfl rfl rfl (by omega) (by omega) (run_q tabOk ?_) | refine wq_sub rfl rfl rfl rfl rfl rfl (by omega) (by omega) (run_q tabOk ?_) | refine wq_cvA tabOk rfl rfl rfl (by simp only [inK]; omega) rfl rfl rfl (run_q tabOk ?_) | refine wq_cvB tabOk rfl rfl rfl rfl rfl rfl (run_q tabOk ?_) | refine wq_rem rfl rfl rfl rfl rfl rfl (by omega) (by omega) (fun r hr hr0 hr1 hr2 => run_q tabOk ?_) | refine wq_quo rfl rfl rfl rfl rfl rfl (by omega) (by omega) (by simp only [inK]; omega) (run_q tabOk ?_) | refine wq_mul rfl rfl rfl rfl rfl rfl (by omega) (by omega) (run_q tabOk ?_) | refine gs_dt (by first | assumption | omega) ?_ | refine gs_df (by first | assumption | omega) ?_ | refine gs_t (by assumption) ?_ | refine gs_f (by assumption) ?_ | refine gs_d (fun hg => ?_) (fun hg => ?_) | refine gs_n (fun hg => ?_) (fun hg => ?_) | refine gs_nb (fun hg => ?_) (fun hg => ?_) | refine gs_b (fun hg => ?_) (fun hg => ?_)) <;> conv => whnf)))
          intro w13 hB13
          have l1 := cell_up hB13 l1
          have l2 := cell_up hB13 l2
          conv => whnf
          (repeat' (first | ((first | refine wl_add rfl rfl rfl rfl rfl rfl (by omega) (by omega) (run_l tabOk ?_) | refine wl_sub rfl rfl rfl rfl rfl rfl (by omega) (by omega) (run_l tabOk ?_) | refine wl_cvA tabOk rfl rfl rfl (by simp only [inK]; omega) rfl rfl rfl (run_l tabOk ?_) | refine wl_cvB tabOk rfl rfl rfl rfl rfl rfl (run_l tabOk ?_) | refine wl_rem rfl rfl rfl rfl rfl rfl (by omega) (by omega) (fun r hr hr0 hr1 hr2 => run_l tabOk ?_) | refine wl_quo rfl rfl rfl rfl rfl rfl (by omega) (by omega) (by simp only [inK]; omega) (run_l tabOk ?_) | refine wl_mul rfl rfl rfl rfl rfl rfl (by omega) (by omega) (run_l tabOk ?_) | refine gs_dt (by first | assumption | omega) ?_ | refine gs_df (by first | assumption | omega) ?_ | refine gs_t (by assumption) ?_ | refine gs_f (by assumption) ?_ | refine gs_d (fun hg => ?_) (fun hg => ?_) | refine gs_n (fun hg => ?_) (fun hg => ?_) | refine gs_nb (fun hg => ?_) (fun hg => ?_) | refine gs_b (fun hg => ?_) (fun hg => ?_)) <;> conv => whnf) | refine fin1 rfl rfl ?_))
          refine wc_qr tabOk mixed (by kernel_rfl) ?_; conv => whnf
          (repeat' (first | (refine wq_L tabOk rfl rfl rfl rfl rfl rfl l1 (run_q tabOk ?_); conv => whnf) | (refine wq_L tabOk rfl rfl rfl rfl rfl rfl l2 (run_q tabOk ?_); conv => whnf) | (refine wq_Xn tabOk 3 1 rfl rfl rfl rfl rfl rfl rfl (by omega) (run_q tabOk ?_); conv => whnf) | (rw [hbe3]; (conv => whnf)) | (rw [hbe4]; (conv => whnf)) | ((first | refine wq_add rfl rfl rfl rfl rfl rfl (by omega) (by omega) (run_q tabOk ?_) | refine wq_sub rfl rfl rfl rfl rfl rfl (by omega) (by omega) (run_q tabOk ?_) | refine wq_cvA tabOk rfl rfl rfl (by simp only [inK]; omega) rfl rfl rfl (run_q tabOk ?_) | refine wq_cvB tabOk rfl rfl rfl rfl rfl rfl (run_q tabOk ?_) | refine wq_rem rfl rfl rfl rfl rfl rfl (by omega) (by omega) (fun r hr hr0 hr1 hr2 => run_q tabOk ?_) | refine wq_quo rfl rfl rfl rfl rfl rfl (by omega) (by omega) (by simp only [inK]; omega) (run_q tabOk ?_) | refine wq_mul rfl rfl rfl rfl rfl rfl (by omega) (by omega) (run_q tabOk ?_) | refine gs_dt (by first | assumption | omega) ?_ | refine gs_df (by first | assumption | omega) ?_ | refine gs_t (by assumption) ?_ | refine gs_f (by assumption) ?_ | refine gs_d (fun hg => ?_) (fun hg => ?_) | refine gs_n (fun hg => ?_) (fun hg => ?_) | refine gs_nb (fun hg => ?_) (fun hg => ?_) | refine gs_b (fun hg => ?_) (fun hg => ?_)) <;> conv => whnf)))
          intro w14 hB14
          conv => whnf
          (repeat' (first | ((first | refine wl_add rfl rfl rfl rfl rfl rfl (by omega) (by omega) (run_l tabOk ?_) | refine wl_sub rfl rfl rfl rfl rfl rfl (by omega) (by omega) (run_l tabOk ?_) | refine wl_cvA tabOk rfl rfl rfl (by simp only [inK]; omega) rfl rfl rfl (run_l tabOk ?_) | refine wl_cvB tabOk rfl rfl rfl rfl rfl rfl (run_l tabOk ?_) | refine wl_rem rfl rfl rfl rfl rfl rfl (by omega) (by omega) (fun r hr hr0 hr1 hr2 => run_l tabOk ?_) | refine wl_quo rfl rfl rfl rfl rfl rfl (by omega) (by omega) (by simp only [inK]; omega) (run_l tabOk ?_) | refine wl_mul rfl rfl rfl rfl rfl rfl (by omega) (by omega) (run_l tabOk ?_) | refine gs_dt (by first | assumption | omega) ?_ | refine gs_df (by first | assumption | omega) ?_ | refine gs_t (by assumption) ?_ | refine gs_f (by assumption) ?_ | refine gs_d (fun hg => ?_) (fun hg => ?_) | refine gs_n (fun hg => ?_) (fun hg => ?_) | refine gs_nb (fun hg => ?_) (fun hg => ?_) | refine gs_b (fun hg => ?_) (fun hg => ?_)) <;> conv => whnf) | refine fin1 rfl rfl ?_))
          exact ⟨u + 1, ⟨rfl, rfl, rfl, rfl, rfl, rfl, rfl, trivial⟩, ⟨by omega, bup hBk (bup hB13 hB14)⟩, by omega⟩
        by_cases hm2 : mode = 2
        · have hd : decide (lab v = lab u) = decide (hl v = hl u) := decide_eq_decide.2 (s2 hm2 v u hvn hun)
          have hbe3 : (!(decide (lab v = lab u) == decide (hl v = hl u))) = false := by rw [hd]; simp
          have hbe4 : (decide (lab v = lab u) != decide (hl v = hl u)) = false := by rw [hd]; simp
          conv => whnf
          (repeat' (first | ((first | refine wl_add rfl rfl rfl rfl rfl rfl (by omega) (by omega) (run_l tabOk ?_) | refine wl_sub rfl rfl rfl rfl rfl rfl (by omega) (by omega) (run_l tabOk ?_) | refine wl_cvA tabOk rfl rfl rfl (by simp only [inK]; omega) rfl rfl rfl (run_l tabOk ?_) | refine wl_cvB tabOk rfl rfl rfl rfl rfl rfl (run_l tabOk ?_) | refine wl_rem rfl rfl rfl rfl rfl rfl (by omega) (by omega) (fun r hr hr0 hr1 hr2 => run_l tabOk ?_) | refine wl_quo rfl rfl rfl rfl rfl rfl (by omega) (by omega) (by simp only [inK]; omega) (run_l tabOk ?_) | refine wl_mul rfl rfl rfl rfl rfl rfl (by omega) (by omega) (run_l tabOk ?_) | refine gs_dt (by first | assumption | omega) ?_ | refine gs_df (by first | assumption | omega) ?_ | refine gs_t (by assumption) ?_ | refine gs_f (by assumption) ?_ | refine gs_d (fun hg => ?_) (fun hg => ?_) | refine gs_n (fun hg => ?_) (fun hg => ?_) | refine gs_nb (fun hg => ?_) (fun hg => ?_) | refine gs_b (fun hg => ?_) (fun hg => ?_)) <;> conv => whnf) | refine fin1 rfl rfl ?_))
          refine wc_qr tabOk mixed (by kernel_rfl) ?_; conv => whnf
          (repeat' (first | (refine wq_L tabOk rfl rfl rfl rfl rfl rfl b1 (run_q tabOk ?_); conv => whnf) | (refine wq_L tabOk rfl rfl rfl rfl rfl rfl b2 (run_q tabOk ?_); conv => whnf) | (refine wq_Xn tabOk 3 1 rfl rfl rfl rfl rfl rfl rfl (by omega) (run_q tabOk ?_); conv => whnf) | ((first | refine wq_add rfl rfl rfl rfl rfl rfl (by omega) (by omega) (run_q tabOk ?_) | refine wq_sub rfl rfl rfl rfl rfl rfl (by omega) (by omega) (run_q tabOk ?_) | refine wq_cvA tabOk rfl rfl rfl (by simp only [inK]; omega) rfl rfl rfl (run_q tabOk ?_) | refine wq_cvB tabOk rfl rfl rfl rfl rfl rfl (run_q tabOk ?_) | refine wq_rem rfl rfl rfl rfl rfl rfl (by omega) (by omega) (fun r hr hr0 hr1 hr2 => run_q tabOk ?_) | refine wq_quo rfl rfl rfl rfl rfl rfl (by omega) (by omega) (by simp only [inK]; omega) (run_q tabOk ?_) | refine wq_mul rfl rfl rfl rfl rfl rfl (by omega) (by omega) (run_q tabOk ?_) | refine gs_dt (by first | assumption | omega) ?_ | refine gs_df (by first | assumption | omega) ?_ | refine gs_t (by assumption) ?_ | refine gs_f (by assumption) ?_ | refine gs_d (fun hg => ?_) (fun hg => ?_) | refine gs_n (fun hg => ?_) (fun hg => ?_) | refine gs_nb (fun hg => ?_) (fun hg => ?_) | refine gs_b (fun hg => ?_) (fun hg => ?_)) <;> conv => whnf)))
          intro w13 hB13
          have l1 := cell_up hB13 l1
          have l2 := cell_up hB13 l2
          conv => whnf
          (repeat' (first | ((first | refine wl_add rfl rfl rfl rfl rfl rfl (by omega) (by omega) (run_l tabOk ?_) | refine wl_sub rfl rfl rfl rfl rfl rfl (by omega) (by omega) (run_l tabOk ?_) | refine wl_cvA tabOk rfl rfl rfl (by simp only [inK]; omega) rfl rfl rfl (run_l tabOk ?_) | refine wl_cvB tabOk rfl rfl rfl rfl rfl rfl (run_l tabOk ?_) | refine wl_rem rfl rfl rfl rfl rfl rfl (by omega) (by omega) (fun r hr hr0 hr1 hr2 => run_l tabOk ?_) | refine wl_quo rfl rfl rfl rfl rfl rfl (by omega) (by omega) (by simp only [inK]; omega) (run_l tabOk ?_) | refine wl_mul rfl rfl rfl rfl rfl rfl (by omega) (by omega) (run_l tabOk ?_) | refine gs_dt (by first | assumption | omega) ?_ | refine gs_df (by first | assumption | omega) ?_ | refine gs_t (by assumption) ?_ | refine gs_f (by assumption) ?_ | refine gs_d (fun hg => ?_) (fun hg => ?_) | refine gs_n (fun hg => ?_) (fun hg => ?_) | refine gs_nb (fun hg => ?_) (fun hg => ?_) | refine gs_b (fun hg => ?_) (fun hg => ?_)) <;> conv => whnf) | refine fin1 rfl rfl ?_))
          refine wc_qr tabOk mixed (by kernel_rfl) ?_; conv => whnf
          (repeat' (first | (refine wq_L tabOk rfl rfl rfl rfl rfl rfl l1 (run_q tabOk ?_); conv => whnf) | (refine wq_L tabOk rfl rfl rfl rfl rfl rfl l2 (run_q tabOk ?_); conv => whnf) | (refine wq_Xn tabOk 3 1 rfl rfl rfl rfl rfl rfl rfl (by omega) (run_q tabOk ?_); conv => whnf) | (rw [hbe3]; (conv => whnf)) | (rw [hbe4]; (conv => whnf)) | ((first | refine wq_add rfl rfl rfl rfl rfl rfl (by omega) (by omega) (run_q tabOk ?_) | refine wq_sub rfl rfl rfl rfl rfl rfl (by omega) (by omega) (run_q tabOk ?_) | refine wq_cvA tabOk rfl rfl rfl (by simp only [inK]; omega) rfl rfl rfl (run_q tabOk ?_) | refine wq_cvB tabOk rfl rfl rfl rfl rfl rfl (run_q tabOk ?_) | refine wq_rem rfl rfl rfl rfl rfl rfl (by omega) (by omega) (fun r hr hr0 hr1 hr2 => run_q tabOk ?_) | refine wq_quo rfl rfl rfl rfl rfl rfl (by omega) (by omega) (by simp only [inK]; omega) (run_q tabOk ?_) | refine wq_mul rfl rfl rfl rfl rfl rfl (by omega) (by omega) (run_q tabOk ?_) | refine gs_dt (by first | assumption | omega) ?_ | refine gs_df (by first | assumption | omega) ?_ | refine gs_t (by assumption) ?_ | refine gs_f (by assumption) ?_ | refine gs_d (fun hg => ?_) (fun hg => ?_) | refine gs_n (fun hg => ?_) (fun hg => ?_) | refine gs_nb (fun hg => ?_) (fun hg => ?_) | refine gs_b (fun hg => ?_) (fun hg => ?_)) <;> conv => whnf)))
          intro w14 hB14
          conv => whnf
          (repeat' (first | ((first | refine wl_add rfl rfl rfl rfl rfl rfl (by omega) (by omega) (run_l tabOk ?_) | refine wl_sub rfl rfl rfl rfl rfl rfl (by omega) (by omega) (run_l tabOk ?_) | refine wl_cvA tabOk rfl rfl rfl (by simp only [inK]; omega) rfl rfl rfl (run_l tabOk ?_) | refine wl_cvB tabOk rfl rfl rfl rfl rfl rfl (run_l tabOk ?_) | refine wl_rem rfl rfl rfl rfl rfl rfl (by omega) (by omega) (fun r hr hr0 hr1 hr2 => run_l tabOk ?_) | refine wl_quo rfl rfl rfl rfl rfl rfl (by omega) (by omega) (by simp only [inK]; omega) (run_l tabOk ?_) | refine wl_mul rfl rfl rfl rfl rfl rfl (by omega) (by omega) (run_l tabOk ?_) | refine gs_dt (by first | assumption | omega) ?_ | refine gs_df (by first | assumption | omega) ?_ | refine gs_t (by assumption) ?_ | refine gs_f (by assumption) ?_ | refine gs_d (fun hg => ?_) (fun hg => ?_) | refine gs_n (fun hg => ?_) (fun hg => ?_) | refine gs_nb (fun hg => ?_) (fun hg => ?_) | refine gs_b (fun hg => ?_) (fun hg => ?_)) <;> conv => whnf) | refine fin1 rfl rfl ?_))
          exact ⟨u + 1, ⟨rfl, rfl, rfl, rfl, rfl, rfl, rfl, trivial⟩, ⟨by omega, bup hBk (bup hB13 hB14)⟩, by omega⟩
        · have hd : decide (lab v = lab u) = false := decide_eq_false (by
            rw [s3 hm1 hm2 v hvn, s3 hm1 hm2 u hun]
            omega)
          have hbe3 : (!(decide (lab v = lab u) == false)) = false := by rw [hd]; rfl
          have hbe4 : (decide (lab v = lab u) != false) = false := by rw [hd]; rfl
          conv => whnf
          (repeat' (first | ((first | refine wl_add rfl rfl rfl rfl rfl rfl (by omega) (by omega) (run_l tabOk ?_) | refine wl_sub rfl rfl rfl rfl rfl rfl (by omega) (by omega) (run_l tabOk ?_) | refine wl_cvA tabOk rfl rfl rfl (by simp only [inK]; omega) rfl rfl rfl (run_l tabOk ?_) | refine wl_cvB tabOk rfl rfl rfl rfl rfl rfl (run_l tabOk ?_) | refine wl_rem rfl rfl rfl rfl rfl rfl (by omega) (by omega) (fun r hr hr0 hr1 hr2 => run_l tabOk ?_) | refine wl_quo rfl rfl rfl rfl rfl rfl (by omega) (by omega) (by simp only [inK]; omega) (run_l tabOk ?_) | refine wl_mul rfl rfl rfl rfl rfl rfl (by omega) (by omega) (run_l tabOk ?_) | refine gs_dt (by first | assumption | omega) ?_ | refine gs_df (by first | assumption | omega) ?_ | refine gs_t (by assumption) ?_ | refine gs_f (by assumption) ?_ | refine gs_d (fun hg => ?_) (fun hg => ?_) | refine gs_n (fun hg => ?_) (fun hg => ?_) | refine gs_nb (fun hg => ?_) (fun hg => ?_) | refine gs_b (fun hg => ?_) (fun hg => ?_)) <;> conv => whnf) | refine fin1 rfl rfl ?_))
          refine wc_qr tabOk mixed (by kernel_rfl) ?_; conv => whnf
          (repeat' (first | (refine wq_L tabOk rfl rfl rfl rfl rfl rfl l1 (run_q tabOk ?_); conv => whnf) | (refine wq_L tabOk rfl rfl rfl rfl rfl rfl l2 (run_q tabOk ?_); conv => whnf) | (refine wq_Xn tabOk 3 1 rfl rfl rfl rfl rfl rfl rfl (by omega) (run_q tabOk ?_); conv => whnf) | (rw [hbe3]; (conv => whnf)) | (rw [hbe4]; (conv => whnf)) | ((first | refine wq_add rfl rfl rfl rfl rfl rfl (by omega) (by omega) (run_q tabOk ?_) | refine wq_sub rfl rfl rfl rfl rfl rfl (by omega) (by omega) (run_q tabOk ?_) | refine wq_cvA tabOk rfl rfl rfl (by simp only [inK]; omega) rfl rfl rfl (run_q tabOk ?_) | refine wq_cvB tabOk rfl rfl rfl rfl rfl rfl (run_q tabOk ?_) | refine wq_rem rfl rfl rfl rfl rfl rfl (by omega) (by omega) (fun r hr hr0 hr1 hr2 => run_q tabOk ?_) | refine wq_quo rfl rfl rfl rfl rfl rfl (by omega) (by omega) (by simp only [inK]; omega) (run_q tabOk ?_) | refine wq_mul rfl rfl rfl rfl rfl rfl (by omega) (by omega) (run_q tabOk ?_) | refine gs_dt (by first | assumption | omega) ?_ | refine gs_df (by first | assumption | omega) ?_ | refine gs_t (by assumption) ?_ | refine gs_f (by assumption) ?_ | refine gs_d (fun hg => ?_) (fun hg => ?_) | refine gs_n (fun hg => ?_) (fun hg => ?_) | refine gs_nb (fun hg => ?_) (fun hg => ?_) | refine gs_b (fun hg => ?_) (fun hg => ?_)) <;> conv => whnf)))
          intro w14 hB14
          conv => whnf
          (repeat' (first | ((first | refine wl_add rfl rfl rfl rfl rfl rfl (by omega) (by omega) (run_l tabOk ?_) | refine wl_sub rfl rfl rfl rfl rfl rfl (by omega) (by omega) (run_l tabOk ?_) | refine wl_cvA tabOk rfl rfl rfl (by simp only [inK]; omega) rfl rfl rfl (run_l tabOk ?_) | refine wl_cvB tabOk rfl rfl rfl rfl rfl rfl (run_l tabOk ?_) | refine wl_rem rfl rfl rfl rfl rfl rfl (by omega) (by omega) (fun r hr hr0 hr1 hr2 => run_l tabOk ?_) | refine wl_quo rfl rfl rfl rfl rfl rfl (by omega) (by omega) (by simp only [inK]; omega) (run_l tabOk ?_) | refine wl_mul rfl rfl rfl rfl rfl rfl (by omega) (by omega) (run_l tabOk ?_) | refine gs_dt (by first | assumption | omega) ?_ | refine gs_df (by first | assumption | omega) ?_ | refine gs_t (by assumption) ?_ | refine gs_f (by assumption) ?_ | refine gs_d (fun hg => ?_) (fun hg => ?_) | refine gs_n (fun hg => ?_) (fun hg => ?_) | refine gs_nb (fun hg => ?_) (fun hg => ?_) | refine gs_b (fun hg => ?_) (fun hg => ?_)) <;> conv => whnf) | refine fin1 rfl rfl ?_))
          exact ⟨u + 1, ⟨rfl, rfl, rfl, rfl, rfl, rfl, rfl, trivial⟩, ⟨by omega, bup hBk hB14⟩, by omega⟩
      · conv => whnf
        (repeat' (first | ((first | refine wl_add rfl rfl rfl rfl rfl rfl (by omega) (by omega) (run_l tabOk ?_) | refine wl_sub rfl rfl rfl rfl rfl rfl (by omega) (by omega) (run_l tabOk ?_) | refine wl_cvA tabOk rfl rfl rfl (by simp only [inK]; omega) rfl rfl rfl (run_l tabOk ?_) | refine wl_cvB tabOk rfl rfl rfl rfl rfl rfl (run_l tabOk ?_) | refine wl_rem rfl rfl rfl rfl rfl rfl (by omega) (by omega) (fun r hr hr0 hr1 hr2 => run_l tabOk ?_) | refine wl_quo rfl rfl rfl rfl rfl rfl (by omega) (by omega) (by simp only [inK]; omega) (run_l tabOk ?_) | refine wl_mul rfl rfl rfl rfl rfl rfl (by omega) (by omega) (run_l tabOk ?_) | refine gs_dt (by first | assumption | omega) ?_ | refine gs_df (by first | assumption | omega) ?_ | refine gs_t (by assumption) ?_ | refine gs_f (by assumption) ?_ | refine gs_d (fun hg => ?_) (fun hg => ?_) | refine gs_n (fun hg => ?_) (fun hg => ?_) | refine gs_nb (fun hg => ?_) (fun hg => ?_) | refine gs_b (fun hg => ?_) (fun hg => ?_)) <;> conv => whnf) | refine fin1 rfl rfl ?_))
        exact ⟨rfl, (), ⟨rfl, rfl, rfl, rfl, rfl, rfl, trivial⟩, hBk⟩
    · rintro _ G3 wk hBk
      have l1 := cL wk hBk v hvn
      by_cases hmm : mode = 1 ∨ mode = 2
      · rcases hmm with hm1 | hm1
        all_goals
          conv => whnf
          (repeat' (first | (refine wl_L tabOk rfl rfl rfl rfl rfl rfl l1 (run_l tabOk ?_); conv => whnf) | (refine wl_Xn tabOk 3 1 rfl rfl rfl rfl rfl rfl rfl (by omega) (run_l tabOk ?_); conv => whnf) | ((first | refine wl_add rfl rfl rfl rfl rfl rfl (by omega) (by omega) (run_l tabOk ?_) | refine wl_sub rfl rfl rfl rfl rfl rfl (by omega) (by omega) (run_l tabOk ?_) | refine wl_cvA tabOk rfl rfl rfl (by simp only [inK]; omega) rfl rfl rfl (run_l tabOk ?_) | refine wl_cvB tabOk rfl rfl rfl rfl rfl rfl (run_l tabOk ?_) | refine wl_rem rfl rfl rfl rfl rfl rfl (by omega) (by omega) (fun r hr hr0 hr1 hr2 => run_l tabOk ?_) | refine wl_quo rfl rfl rfl rfl rfl rfl (by omega) (by omega) (by simp only [inK]; omega) (run_l tabOk ?_) | refine wl_mul rfl rfl rfl rfl rfl rfl (by omega) (by omega) (run_l tabOk ?_) | refine gs_dt (by first | assumption | omega) ?_ | refine gs_df (by first | assumption | omega) ?_ | refine gs_t (by assumption) ?_ | refine gs_f (by assumption) ?_ | refine gs_d (fun hg => ?_) (fun hg => ?_) | refine gs_n (fun hg => ?_) (fun hg => ?_) | refine gs_nb (fun hg => ?_) (fun hg => ?_) | refine gs_b (fun hg => ?_) (fun hg => ?_)) <;> conv => whnf) | refine fin1 rfl rfl ?_))
          exact ⟨v + 1, ⟨rfl, rfl, rfl, rfl, rfl, rfl, trivial⟩, ⟨by omega, hBk⟩, by omega⟩
      · rw [s3 (fun e => hmm (.inl e)) (fun e => hmm (.inr e)) v hvn] at l1
        conv => whnf
        (repeat' (first | (refine wl_L tabOk rfl rfl rfl rfl rfl rfl l1 (run_l tabOk ?_); conv => whnf) | (refine wl_Xn tabOk 3 1 rfl rfl rfl rfl rfl rfl rfl (by omega) (run_l tabOk ?_); conv => whnf) | ((first | refine wl_add rfl rfl rfl rfl rfl rfl (by omega) (by omega) (run_l tabOk ?_) | refine wl_sub rfl rfl rfl rfl rfl rfl (by omega) (by omega) (run_l tabOk ?_) | refine wl_cvA tabOk rfl rfl rfl (by simp only [inK]; omega) rfl rfl rfl (run_l tabOk ?_) | refine wl_cvB tabOk rfl rfl rfl rfl rfl rfl (run_l tabOk ?_) | refine wl_rem rfl rfl rfl rfl rfl rfl (by omega) (by omega) (fun r hr hr0 hr1 hr2 => run_l tabOk ?_) | refine wl_quo rfl rfl rfl rfl rfl rfl (by omega) (by omega) (by simp only [inK]; omega) (run_l tabOk ?_) | refine wl_mul rfl rfl rfl rfl rfl rfl (by omega) (by omega) (run_l tabOk ?_) | refine gs_dt (by first | assumption | omega) ?_ | refine gs_df (by first | assumption | omega) ?_ | refine gs_t (by assumption) ?_ | refine gs_f (by assumption) ?_ | refine gs_d (fun hg => ?_) (fun hg => ?_) | refine gs_n (fun hg => ?_) (fun hg => ?_) | refine gs_nb (fun hg => ?_) (fun hg => ?_) | refine gs_b (fun hg => ?_) (fun hg => ?_)) <;> conv => whnf) | refine fin1 rfl rfl ?_))
        exact ⟨v + 1, ⟨rfl, rfl, rfl, rfl, rfl, rfl, trivial⟩, ⟨by omega, hBk⟩, by omega⟩
  · conv => whnf
    (repeat' (first | (refine wl_Lg tabOk hb3i rfl rfl rfl rfl rfl rfl rfl (run_l tabOk ?_); conv => whnf) | ((first | refine wl_add rfl rfl rfl rfl rfl rfl (by omega) (by omega) (run_l tabOk ?_) | refine wl_sub rfl rfl rfl rfl rfl rfl (by omega) (by omega) (run_l tabOk ?_) | refine wl_cvA tabOk rfl rfl rfl (by simp only [inK]; omega) rfl rfl rfl (run_l tabOk ?_) | refine wl_cvB tabOk rfl rfl rfl rfl rfl rfl (run_l tabOk ?_) | refine wl_rem rfl rfl rfl rfl rfl rfl (by omega) (by omega) (fun r hr hr0 hr1 hr2 => run_l tabOk ?_) | refine wl_quo rfl rfl rfl rfl rfl rfl (by omega) (by omega) (by simp only [inK]; omega) (run_l tabOk ?_) | refine wl_mul rfl rfl rfl rfl rfl rfl (by omega) (by omega) (run_l tabOk ?_) | refine gs_dt (by first | assumption | omega) ?_ | refine gs_df (by first | assumption | omega) ?_ | refine gs_t (by assumption) ?_ | refine gs_f (by assumption) ?_ | refine gs_d (fun hg => ?_) (fun hg => ?_) | refine gs_n (fun hg => ?_) (fun hg => ?_) | refine gs_nb (fun hg => ?_) (fun hg => ?_) | refine gs_b (fun hg => ?_) (fun hg => ?_)) <;> conv => whnf) | refine fin1 rfl rfl ?_))
    exact ⟨rfl, bup hBw hBi⟩
end Go.Proofs.Ytjggjhgbobmkhaa
