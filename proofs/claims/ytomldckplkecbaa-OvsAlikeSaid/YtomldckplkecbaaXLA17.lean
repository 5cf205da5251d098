/- The walk of OvsAlike. -/
import Derived.Test.YtomldckplkecbaaY18
import Derived.Test.YtomldckplkecbaaXPB17
import Derived.Test.YtomldckplkecbaaXSB12
import Derived.Test.YtomldckplkecbaaXRS12
namespace Go.Proofs.Ytomldckplkecbaa
open Go.RowKit
set_option linter.unusedVariables false
set_option linter.unusedSimpArgs false
set_option maxRecDepth 100000
theorem mg_row {n C : Nat} {M : Mat} (h : Shape n C M) {v u : Nat} (hv : v < n) (hu : u < n) (e : ∀ k, mg M v k = true ↔ mg M u k = true) : M[v]! = M[u]! := by
  have h1 := h.cols v hv
  have h2 := h.cols u hu
  refine List.ext_getElem (by omega) fun k h3 h4 => ?_
  have := e k
  unfold mg at this
  rw [getElem!_pos _ k h3, getElem!_pos _ k h4] at this
  exact Bool.eq_iff_iff.2 this
/-- Rows of sources, as a law reads them. -/
structure SrcM (n nc : Nat) (s : Sys) (M : Mat) : Prop where
  sh : Shape n (nc + 2 * n) M
  iff : ∀ v, v < n → ∀ k, mg M v k = true ↔ Src n nc s v k
section
variable {n : Nat} {xs : List Cell} {ys : List Con} {M : Mat} {kn : List (List Nat)} {of : Nat → Nat}
abbrev gl (n : Nat) (xs : List Cell) (ys : List Con) (kn : List (List Nat)) (of : Nat → Nat) (v : Nat) : Int := lv n (gInto n xs ys) (gBases n xs ys) (gLoose n xs ys) kn of v
theorem SrcM.row (h : SrcM n xs.length ⟨n, xs, ys⟩ M) (hr : rightB ⟨n, xs, ys⟩ = true) (hK : KnOk (gInto n xs ys) kn of) {v u : Nat} (hv : v < n) (hu : u < n) (e : gl n xs ys kn of v = gl n xs ys kn of u) : M[v]! = M[u]! := by
  have hG := gok hr
  have hni := hG.ni
  refine mg_row h.sh hv hu fun k => ?_
  rw [h.iff v hv, h.iff u hu, ← gs_src hr hv, ← gs_src hr hu]
  exact lv_same hG hK xs.length (by omega) (by omega) e k
theorem SrcM.none (h : SrcM n xs.length ⟨n, xs, ys⟩ M) (hr : rightB ⟨n, xs, ys⟩ = true) (hK : KnOk (gInto n xs ys) kn of) {v : Nat} (hv : v < n) : gl n xs ys kn of v = -1 ↔ ∀ j, j < (M[v]!).length → (M[v]!)[j]! = false := by
  have hG := gok hr
  have hni := hG.ni
  have hl := h.sh.cols v hv
  refine (lv_none hG hK xs.length (v := v) (by omega)).trans ?_
  constructor
  · intro hn j hj
    cases hb : (M[v]!)[j]! with
    | false => rfl
    | true => exact absurd ((gs_src hr hv).2 ((h.iff v hv j).1 hb)) (hn j)
  · intro hn j hj
    have h2 := (h.iff v hv j).2 ((gs_src hr hv).1 hj)
    by_cases hjl : j < (M[v]!).length
    · have := hn j hjl
      have h2 : (M[v]!)[j]! = true := h2
      rw [this] at h2
      cases h2
    · rw [mg_out h.sh (fun h => hjl (by omega))] at h2
      cases h2
end
theorem refNoneT {xs : List Bool} (A : Option Addr) (c : Nat) (w : World) (h : RowR 1 dB w A xs) {m : Nat} (hm : xs.length = m) (hn : ∀ j, j < xs.length → xs[j]! = false) :
    Calls Try.prog 19 #[.slice A m c] w fun e w' => e = .returned (.bool true) ∧ Below w.heap.size w w' := by
  subst hm
  refine (refNone xs A c w h).mono ?_
  rintro e w' ⟨h1, h2⟩
  exact ⟨by rw [h1, decide_eq_true hn], h2⟩
theorem refSameT {xs ys : List Bool} (A B : Option Addr) (c d : Nat) (w : World) (h1 : RowR 1 dB w A xs) (h2 : RowR 1 dB w B ys) {m : Nat} (hm : xs.length = m) (he : xs = ys) :
    Calls Try.prog 20 #[.slice A m c, .slice B m d] w fun e w' => e = .returned (.bool true) ∧ Below w.heap.size w w' := by
  subst he
  subst hm
  refine (refSameB xs xs A B c d w h1 h2 rfl).mono ?_
  rintro e w' ⟨h1, h2⟩
  exact ⟨by rw [h1, decide_eq_true rfl], h2⟩
set_option maxHeartbeats 16000000 in
theorem lawOvsAlike (d : Draft) (A : Option Addr) (c : Nat) (w : World) (h : RActs w A d.acts) (hk : (0 ≤ d.vars ∧ d.vars ≤ 255) ∧ 0 ≤ d.cells ∧ d.cells ≤ 255) :
    Calls Try.prog 8 #[.agg #[.int .u8 d.vars, .int .u8 d.cells, .slice A d.acts.length c]] w fun e w' => e = .returned (.bool true) ∧ Below w.heap.size w w' := by
  refine enterR (args := [.agg #[.int .u8 d.vars, .int .u8 d.cells, .slice A d.acts.length c]]) tabOk Try.func8 rfl Try.ntmps8 rfl ?_; conv => whnf
  refine wl_box rfl rfl rfl rfl rfl rfl ?_
  intro g1 w1 hn1
  refine run_l tabOk ?_
  conv => whnf
  refine wl_C fn14 (awake17 _) rfl rfl rfl rfl rfl rfl rfl ?_
  rintro _ w2 ⟨rfl, hB2⟩
  have hb := blk_up hB2 hn1.blk
  have hB := bup hn1.below hB2
  refine ⟨_, rfl, run_l tabOk ?_⟩
  conv => whnf
  by_cases hbig : 40 < d.acts.length
  · (repeat' (first | (refine wl_Lg tabOk hb rfl rfl rfl rfl rfl rfl rfl (run_l tabOk ?_); conv => whnf) | (refine wl_add rfl rfl rfl rfl rfl rfl (by omega) (by omega) (run_l tabOk ?_); conv => whnf) | (refine wl_sub rfl rfl rfl rfl rfl rfl (by omega) (by omega) (run_l tabOk ?_); conv => whnf) | (refine wl_cvA tabOk rfl rfl rfl (by simp only [inK]; omega) rfl rfl rfl (run_l tabOk ?_); conv => whnf) | (refine wl_cvB tabOk rfl rfl rfl rfl rfl rfl (run_l tabOk ?_); conv => whnf) | (refine wl_rem rfl rfl rfl rfl rfl rfl (by omega) (by omega) (fun r hr hr0 hr1 hr2 => run_l tabOk ?_); conv => whnf) | (refine wl_quo rfl rfl rfl rfl rfl rfl (by omega) (by omega) (by simp only [inK]; omega) (run_l tabOk ?_); conv => whnf) | (refine wl_mul rfl rfl rfl rfl rfl rfl (by omega) (by omega) (run_l tabOk ?_); conv => whnf) | (refine gs_dt (by first | assumption | omega) ?_; conv => whnf) | (refine gs_df (by first | assumption | omega) ?_; conv => whnf) | (refine gs_t (by assumption) ?_; conv => whnf) | (refine gs_f (by assumption) ?_; conv => whnf) | (refine gs_d (fun hg => ?_) (fun hg => ?_) <;> conv => whnf) | (refine gs_n (fun hg => ?_) (fun hg => ?_) <;> conv => whnf) | (refine gs_nb (fun hg => ?_) (fun hg => ?_) <;> conv => whnf) | (refine gs_b (fun hg => ?_) (fun hg => ?_) <;> conv => whnf) | refine fin1 rfl rfl ?_))
    refine wl_C fn14 (awake17 _) rfl rfl rfl rfl rfl rfl rfl ?_
    rintro _ w3 ⟨rfl, hB3⟩
    refine ⟨_, rfl, run_l tabOk ?_⟩
    conv => whnf
    (repeat' (first | (refine wl_add rfl rfl rfl rfl rfl rfl (by omega) (by omega) (run_l tabOk ?_); conv => whnf) | (refine wl_sub rfl rfl rfl rfl rfl rfl (by omega) (by omega) (run_l tabOk ?_); conv => whnf) | (refine wl_cvA tabOk rfl rfl rfl (by simp only [inK]; omega) rfl rfl rfl (run_l tabOk ?_); conv => whnf) | (refine wl_cvB tabOk rfl rfl rfl rfl rfl rfl (run_l tabOk ?_); conv => whnf) | (refine wl_rem rfl rfl rfl rfl rfl rfl (by omega) (by omega) (fun r hr hr0 hr1 hr2 => run_l tabOk ?_); conv => whnf) | (refine wl_quo rfl rfl rfl rfl rfl rfl (by omega) (by omega) (by simp only [inK]; omega) (run_l tabOk ?_); conv => whnf) | (refine wl_mul rfl rfl rfl rfl rfl rfl (by omega) (by omega) (run_l tabOk ?_); conv => whnf) | (refine gs_dt (by first | assumption | omega) ?_; conv => whnf) | (refine gs_df (by first | assumption | omega) ?_; conv => whnf) | (refine gs_t (by assumption) ?_; conv => whnf) | (refine gs_f (by assumption) ?_; conv => whnf) | (refine gs_d (fun hg => ?_) (fun hg => ?_) <;> conv => whnf) | (refine gs_n (fun hg => ?_) (fun hg => ?_) <;> conv => whnf) | (refine gs_nb (fun hg => ?_) (fun hg => ?_) <;> conv => whnf) | (refine gs_b (fun hg => ?_) (fun hg => ?_) <;> conv => whnf) | refine fin1 rfl rfl ?_))
    exact ⟨rfl, bup hB hB3⟩
  (repeat' (first | (refine wl_Lg tabOk hb rfl rfl rfl rfl rfl rfl rfl (run_l tabOk ?_); conv => whnf) | (refine wl_Lag tabOk hb rfl rfl rfl rfl rfl rfl (run_l tabOk ?_); conv => whnf) | (refine wl_add rfl rfl rfl rfl rfl rfl (by omega) (by omega) (run_l tabOk ?_); conv => whnf) | (refine wl_sub rfl rfl rfl rfl rfl rfl (by omega) (by omega) (run_l tabOk ?_); conv => whnf) | (refine wl_cvA tabOk rfl rfl rfl (by simp only [inK]; omega) rfl rfl rfl (run_l tabOk ?_); conv => whnf) | (refine wl_cvB tabOk rfl rfl rfl rfl rfl rfl (run_l tabOk ?_); conv => whnf) | (refine wl_rem rfl rfl rfl rfl rfl rfl (by omega) (by omega) (fun r hr hr0 hr1 hr2 => run_l tabOk ?_); conv => whnf) | (refine wl_quo rfl rfl rfl rfl rfl rfl (by omega) (by omega) (by simp only [inK]; omega) (run_l tabOk ?_); conv => whnf) | (refine wl_mul rfl rfl rfl rfl rfl rfl (by omega) (by omega) (run_l tabOk ?_); conv => whnf) | (refine gs_dt (by first | assumption | omega) ?_; conv => whnf) | (refine gs_df (by first | assumption | omega) ?_; conv => whnf) | (refine gs_t (by assumption) ?_; conv => whnf) | (refine gs_f (by assumption) ?_; conv => whnf) | (refine gs_d (fun hg => ?_) (fun hg => ?_) <;> conv => whnf) | (refine gs_n (fun hg => ?_) (fun hg => ?_) <;> conv => whnf) | (refine gs_nb (fun hg => ?_) (fun hg => ?_) <;> conv => whnf) | (refine gs_b (fun hg => ?_) (fun hg => ?_) <;> conv => whnf) | refine fin1 rfl rfl ?_))
  refine wl_C fn15 (refMake d A c w2 (h.up stays_Act hB) hk.1 hk.2) rfl rfl rfl rfl rfl rfl rfl ?_
  rintro _ w3 ⟨s, va, vb', bs, cs, rfl, hB3, hM⟩
  have hright := hM.right
  have hvars := hM.vars
  have hnce := hM.ncells
  obtain ⟨A1, c1, rfl, _, hr1⟩ := hM.cells.row
  obtain ⟨A2, c2, rfl, _, hr2⟩ := hM.cons.row
  have hB03 := bup hB hB3
  clear hM hb hB2 hn1
  obtain ⟨vars, xs, ys⟩ := s
  simp only at hright hvars hr1 hr2 hnce
  obtain ⟨n, rfl⟩ : ∃ n : Nat, vars = n := ⟨vars.toNat, by omega⟩
  have hn12 : n ≤ 12 := by omega
  refine ⟨_, rfl, run_l tabOk ?_⟩
  conv => whnf
  refine wl_alloc tabOk rfl rfl rfl rfl rfl rfl ?_
  intro g3 w4 hn4
  refine run_l tabOk ?_
  conv => whnf
  refine wl_Sa tabOk hn4.blk rfl rfl rfl rfl rfl (by simp [Value.oneCell']) rfl rfl ?_
  intro w5 hp5
  have hB5 : Below w3.heap.size w3 w5 := hp5.below hn4.below (by have := hn4.at_; omega) (by have := hn4.size; omega)
  have hb3 : w5.heap[g3]? = some (.cells #[.int .i64 n, .slice A1 xs.length c1, .slice A2 ys.length c2] 41 (0, 0)) := hp5.blk
  have hr1 := hr1.up stays_Cell hB5
  have hr2 := hr2.up stays_Con hB5
  have hB05 := bup hB03 hB5
  clear hp5 hn4 hB03 hB5 hB3
  refine run_l tabOk ?_
  conv => whnf
  (repeat' (first | (refine wl_Lag tabOk hb3 rfl rfl rfl rfl rfl rfl (run_l tabOk ?_); conv => whnf) | (refine wl_add rfl rfl rfl rfl rfl rfl (by omega) (by omega) (run_l tabOk ?_); conv => whnf) | (refine wl_sub rfl rfl rfl rfl rfl rfl (by omega) (by omega) (run_l tabOk ?_); conv => whnf) | (refine wl_cvA tabOk rfl rfl rfl (by simp only [inK]; omega) rfl rfl rfl (run_l tabOk ?_); conv => whnf) | (refine wl_cvB tabOk rfl rfl rfl rfl rfl rfl (run_l tabOk ?_); conv => whnf) | (refine wl_rem rfl rfl rfl rfl rfl rfl (by omega) (by omega) (fun r hr hr0 hr1 hr2 => run_l tabOk ?_); conv => whnf) | (refine wl_quo rfl rfl rfl rfl rfl rfl (by omega) (by omega) (by simp only [inK]; omega) (run_l tabOk ?_); conv => whnf) | (refine wl_mul rfl rfl rfl rfl rfl rfl (by omega) (by omega) (run_l tabOk ?_); conv => whnf) | (refine gs_dt (by first | assumption | omega) ?_; conv => whnf) | (refine gs_df (by first | assumption | omega) ?_; conv => whnf) | (refine gs_t (by assumption) ?_; conv => whnf) | (refine gs_f (by assumption) ?_; conv => whnf) | (refine gs_d (fun hg => ?_) (fun hg => ?_) <;> conv => whnf) | (refine gs_n (fun hg => ?_) (fun hg => ?_) <;> conv => whnf) | (refine gs_nb (fun hg => ?_) (fun hg => ?_) <;> conv => whnf) | (refine gs_b (fun hg => ?_) (fun hg => ?_) <;> conv => whnf) | refine fin1 rfl rfl ?_))
  refine wl_C fn16 (graphOfR n xs ys A1 A2 c1 c2 w5 hr1 hr2 hright) rfl rfl rfl rfl rfl rfl rfl ?_
  rintro _ w6 ⟨A', B', C', rfl, k1, k2, k3, hB6⟩
  have hG := gok hright
  have hni : (gInto n xs ys).length = 2 * n := hG.ni
  have hnb : (gBases n xs ys).length = n := hG.nb
  have hnl : (gLoose n xs ys).length = 2 * n := hG.nl
  have hb3 := blk_up hB6 hb3
  refine ⟨_, rfl, run_l tabOk ?_⟩
  conv => whnf
  refine wl_alloc tabOk rfl rfl rfl rfl rfl rfl ?_
  intro g4 w7 hn7
  refine run_l tabOk ?_
  conv => whnf
  refine wl_Sa tabOk hn7.blk rfl rfl rfl rfl rfl (by simp [Value.oneCell']) rfl rfl ?_
  intro w8 hp8
  have hB8 : Below w6.heap.size w6 w8 := hp8.below hn7.below (by have := hn7.at_; omega) (by have := hn7.size; omega)
  have hb4 : w8.heap[g4]? = some (.cells #[.int .i64 n, .slice A' (2 * n) (2 * n), .slice B' n n, .slice C' (2 * n) (2 * n)] 44 (0, 0)) := hp8.blk
  have hb3 := blk_up hB8 hb3
  have k1 := k1.up stays_Ints hB8
  have k2 := k2.up stays_Ints hB8
  have k3 := k3.up stays_B hB8
  have hB68 := bup hB6 hB8
  have hr1 := hr1.up stays_Cell hB68
  have hr2 := hr2.up stays_Con hB68
  have hB08 := bup hB05 hB68
  clear hp8 hn7 hB6 hB8 hB68 hB05
  refine run_l tabOk ?_
  conv => whnf
  have hlab := oLabels n (gInto n xs ys) (gBases n xs ys) (gLoose n xs ys) A' B' C' (2 * n) n (2 * n) w8 hG k1 k2 k3
  rw [hni, hnb, hnl] at hlab
  (repeat' (first | (refine wl_Lag tabOk hb4 rfl rfl rfl rfl rfl rfl (run_l tabOk ?_); conv => whnf) | (refine wl_add rfl rfl rfl rfl rfl rfl (by omega) (by omega) (run_l tabOk ?_); conv => whnf) | (refine wl_sub rfl rfl rfl rfl rfl rfl (by omega) (by omega) (run_l tabOk ?_); conv => whnf) | (refine wl_cvA tabOk rfl rfl rfl (by simp only [inK]; omega) rfl rfl rfl (run_l tabOk ?_); conv => whnf) | (refine wl_cvB tabOk rfl rfl rfl rfl rfl rfl (run_l tabOk ?_); conv => whnf) | (refine wl_rem rfl rfl rfl rfl rfl rfl (by omega) (by omega) (fun r hr hr0 hr1 hr2 => run_l tabOk ?_); conv => whnf) | (refine wl_quo rfl rfl rfl rfl rfl rfl (by omega) (by omega) (by simp only [inK]; omega) (run_l tabOk ?_); conv => whnf) | (refine wl_mul rfl rfl rfl rfl rfl rfl (by omega) (by omega) (run_l tabOk ?_); conv => whnf) | (refine gs_dt (by first | assumption | omega) ?_; conv => whnf) | (refine gs_df (by first | assumption | omega) ?_; conv => whnf) | (refine gs_t (by assumption) ?_; conv => whnf) | (refine gs_f (by assumption) ?_; conv => whnf) | (refine gs_d (fun hg => ?_) (fun hg => ?_) <;> conv => whnf) | (refine gs_n (fun hg => ?_) (fun hg => ?_) <;> conv => whnf) | (refine gs_nb (fun hg => ?_) (fun hg => ?_) <;> conv => whnf) | (refine gs_b (fun hg => ?_) (fun hg => ?_) <;> conv => whnf) | refine fin1 rfl rfl ?_))
  refine wl_C fn17 hlab rfl rfl rfl rfl rfl rfl rfl ?_
  rintro _ w9 ⟨kn, of, go, hK, rfl, hR, hB9⟩
  have hLge : ∀ v, v < n → -1 ≤ gl n xs ys kn of v := fun v hv => ((labN_ok hG hK kn.length (Nat.le_refl _)).lab _ (hK.at_ v (by omega)).1).1
  have hlrow : ∀ v u, v < n → u < n → ((of v = of u) ↔ Rg (gInto n xs ys) v u ∧ Rg (gInto n xs ys) u v) := fun v u hv hu => hK.scc v u (by omega) (by omega)
  have hb3 := blk_up hB9 hb3
  have hb4 := blk_up hB9 hb4
  have hB09 := bup hB08 hB9
  refine ⟨_, rfl, run_l tabOk ?_⟩
  conv => whnf
  (repeat' (first | (refine wl_Lag tabOk hb3 rfl rfl rfl rfl rfl rfl (run_l tabOk ?_); conv => whnf) | (refine wl_add rfl rfl rfl rfl rfl rfl (by omega) (by omega) (run_l tabOk ?_); conv => whnf) | (refine wl_sub rfl rfl rfl rfl rfl rfl (by omega) (by omega) (run_l tabOk ?_); conv => whnf) | (refine wl_cvA tabOk rfl rfl rfl (by simp only [inK]; omega) rfl rfl rfl (run_l tabOk ?_); conv => whnf) | (refine wl_cvB tabOk rfl rfl rfl rfl rfl rfl (run_l tabOk ?_); conv => whnf) | (refine wl_rem rfl rfl rfl rfl rfl rfl (by omega) (by omega) (fun r hr hr0 hr1 hr2 => run_l tabOk ?_); conv => whnf) | (refine wl_quo rfl rfl rfl rfl rfl rfl (by omega) (by omega) (by simp only [inK]; omega) (run_l tabOk ?_); conv => whnf) | (refine wl_mul rfl rfl rfl rfl rfl rfl (by omega) (by omega) (run_l tabOk ?_); conv => whnf) | (refine gs_dt (by first | assumption | omega) ?_; conv => whnf) | (refine gs_df (by first | assumption | omega) ?_; conv => whnf) | (refine gs_t (by assumption) ?_; conv => whnf) | (refine gs_f (by assumption) ?_; conv => whnf) | (refine gs_d (fun hg => ?_) (fun hg => ?_) <;> conv => whnf) | (refine gs_n (fun hg => ?_) (fun hg => ?_) <;> conv => whnf) | (refine gs_nb (fun hg => ?_) (fun hg => ?_) <;> conv => whnf) | (refine gs_b (fun hg => ?_) (fun hg => ?_) <;> conv => whnf) | refine fin1 rfl rfl ?_))
  refine wl_C fn18 (refSources n xs ys A1 A2 c1 c2 w9 (hr1.up stays_Cell hB9) (hr2.up stays_Con hB9) hright) rfl rfl rfl rfl rfl rfl rfl ?_
  rintro _ w10 ⟨M, Am, cap, rb, base, rfl, hM, hbase, hiff, hB10⟩
  have hS : SrcM n xs.length ⟨n, xs, ys⟩ M := ⟨hM.sh, hiff⟩
  clear hiff
  have hb3 := blk_up hB10 hb3
  have hb4 := blk_up hB10 hb4
  have hB010 := bup hB09 hB10
  refine ⟨_, rfl, run_l tabOk ?_⟩
  conv => whnf
  have hfi := kFind (gInto n xs ys) A' (2 * n) w10 (k1.up stays_Ints (bup hB9 hB10)) (by rw [hni]; omega)
  rw [hni] at hfi
  (repeat' (first | (refine wl_Lg tabOk hb4 rfl rfl rfl rfl rfl rfl rfl (run_l tabOk ?_); conv => whnf) | (refine wl_add rfl rfl rfl rfl rfl rfl (by omega) (by omega) (run_l tabOk ?_); conv => whnf) | (refine wl_sub rfl rfl rfl rfl rfl rfl (by omega) (by omega) (run_l tabOk ?_); conv => whnf) | (refine wl_cvA tabOk rfl rfl rfl (by simp only [inK]; omega) rfl rfl rfl (run_l tabOk ?_); conv => whnf) | (refine wl_cvB tabOk rfl rfl rfl rfl rfl rfl (run_l tabOk ?_); conv => whnf) | (refine wl_rem rfl rfl rfl rfl rfl rfl (by omega) (by omega) (fun r hr hr0 hr1 hr2 => run_l tabOk ?_); conv => whnf) | (refine wl_quo rfl rfl rfl rfl rfl rfl (by omega) (by omega) (by simp only [inK]; omega) (run_l tabOk ?_); conv => whnf) | (refine wl_mul rfl rfl rfl rfl rfl rfl (by omega) (by omega) (run_l tabOk ?_); conv => whnf) | (refine gs_dt (by first | assumption | omega) ?_; conv => whnf) | (refine gs_df (by first | assumption | omega) ?_; conv => whnf) | (refine gs_t (by assumption) ?_; conv => whnf) | (refine gs_f (by assumption) ?_; conv => whnf) | (refine gs_d (fun hg => ?_) (fun hg => ?_) <;> conv => whnf) | (refine gs_n (fun hg => ?_) (fun hg => ?_) <;> conv => whnf) | (refine gs_nb (fun hg => ?_) (fun hg => ?_) <;> conv => whnf) | (refine gs_b (fun hg => ?_) (fun hg => ?_) <;> conv => whnf) | refine fin1 rfl rfl ?_))
  refine wl_C fn13 hfi rfl rfl rfl rfl rfl rfl rfl ?_
  rintro _ w11 ⟨⟨kn2, of2, Ak, ck, go2, rfl, hK2, _, _, hof⟩, hB11⟩
  have hof2 : ∀ v u, v < n → u < n → of2 v = of2 u → of v = of u := fun v u hv hu e => (hlrow v u hv hu).2 ((hK2.scc v u (by omega) (by omega)).1 e)
  have hb3 := blk_up hB11 hb3
  have hM := hM.up hB11
  have hB011 := bup hB010 hB11
  have rdo : ∀ (wb : World), Below w11.heap.size w11 wb → ∀ j, j < n → wb.cell? ((⟨go2, 0, none⟩ : Addr).add (j * 1)) = some (.int .i64 (of2 j : Int)) := fun wb hBb j hj => by
    obtain ⟨z, ad3, ⟨hz3⟩, e3, hc4, _, _⟩ := intsE (hof.up (stays_I _) hBb) j (by rw [ofI_len, hni]; omega)
    rw [ofI_at _ (by omega)] at hz3
    subst hz3
    injection e3 with e3
    subst e3
    exact hc4
  have rdl : ∀ (wb : World), Below w11.heap.size w11 wb → ∀ j, j < n → wb.cell? ((⟨go, 0, none⟩ : Addr).add (j * 1)) = some (.int .i64 (gl n xs ys kn of j)) := fun wb hBb j hj => by
    obtain ⟨z, ad3, ⟨hz3⟩, e3, hc4, _, _⟩ := intsE (hR.up (stays_I _) (bup (bup hB10 hB11) hBb)) j (by simpa using hj)
    rw [getElem!_pos _ j (by simpa using hj)] at hz3
    simp at hz3
    subst hz3
    injection e3 with e3
    subst e3
    exact hc4
  have hls : ∀ v u, of v = of u → gl n xs ys kn of v = gl n xs ys kn of u := fun v u e => by show Lf _ _ _ _ _ _ (of v) = Lf _ _ _ _ _ _ (of u); rw [e]
  obtain ⟨l, hl⟩ : ∃ l : Nat → Int, l = gl n xs ys kn of := ⟨_, rfl⟩
  have hrow : ∀ v u, v < n → u < n → l v = l u → M[v]! = M[u]! := fun v u hv hu e => hS.row hright hK hv hu (by rw [hl] at e; exact e)
  have hnone : ∀ v, v < n → l v = -1 → ∀ j, j < (M[v]!).length → (M[v]!)[j]! = false := fun v hv e => (hS.none hright hK hv).1 (by rw [hl] at e; exact e)
  have hofl : ∀ v u, v < n → u < n → of2 v = of2 u → l v = l u := fun v u hv hu e => by rw [hl]; exact hls v u (hof2 v u hv hu e)
  rw [← hl] at hLge rdl
  clear hl hls hlrow hof2 hlab hfi hK hK2 hR hof hG hr1 hr2 k1 k2 k3 hb4
  obtain ⟨C, hC⟩ : ∃ C, C = xs.length + 2 * n := ⟨_, rfl⟩
  rw [← hC] at hM
  have hcol : ∀ v, v < n → (M[v]!).length = C := fun v hv => hM.sh.cols v hv
  refine ⟨_, rfl, run_l tabOk ?_⟩
  rw [hni]
  conv => whnf
  (repeat' (first | (refine wl_Lg tabOk hb3 rfl rfl rfl rfl rfl rfl rfl (run_l tabOk ?_); conv => whnf) | (refine wl_add rfl rfl rfl rfl rfl rfl (by omega) (by omega) (run_l tabOk ?_); conv => whnf) | (refine wl_sub rfl rfl rfl rfl rfl rfl (by omega) (by omega) (run_l tabOk ?_); conv => whnf) | (refine wl_cvA tabOk rfl rfl rfl (by simp only [inK]; omega) rfl rfl rfl (run_l tabOk ?_); conv => whnf) | (refine wl_cvB tabOk rfl rfl rfl rfl rfl rfl (run_l tabOk ?_); conv => whnf) | (refine wl_rem rfl rfl rfl rfl rfl rfl (by omega) (by omega) (fun r hr hr0 hr1 hr2 => run_l tabOk ?_); conv => whnf) | (refine wl_quo rfl rfl rfl rfl rfl rfl (by omega) (by omega) (by simp only [inK]; omega) (run_l tabOk ?_); conv => whnf) | (refine wl_mul rfl rfl rfl rfl rfl rfl (by omega) (by omega) (run_l tabOk ?_); conv => whnf) | (refine gs_dt (by first | assumption | omega) ?_; conv => whnf) | (refine gs_df (by first | assumption | omega) ?_; conv => whnf) | (refine gs_t (by assumption) ?_; conv => whnf) | (refine gs_f (by assumption) ?_; conv => whnf) | (refine gs_d (fun hg => ?_) (fun hg => ?_) <;> conv => whnf) | (refine gs_n (fun hg => ?_) (fun hg => ?_) <;> conv => whnf) | (refine gs_nb (fun hg => ?_) (fun hg => ?_) <;> conv => whnf) | (refine gs_b (fun hg => ?_) (fun hg => ?_) <;> conv => whnf) | refine fin1 rfl rfl ?_))
  refine lp_loop tabOk (X := Nat) (fun v => [(3, .pointer (some ⟨g3, 0, none⟩)), (5, .slice (some ⟨go, 0, none⟩) n n), (6, .slice Am n cap), (8, .slice (some ⟨go2, 0, none⟩) (2 * n) (2 * n)), (9, .int .i64 (v : Int))]) (fun v wi => v ≤ n ∧ Below w11.heap.size w11 wi) (fun v => n - v) 0 ⟨rfl, rfl, rfl, rfl, rfl, trivial⟩ ⟨by omega, Below.refl _ _⟩ ?_
  rintro v G2 wi ⟨hv, hBi⟩
  have hb3i := blk_up hBi hb3
  by_cases hvn : v < n
  · have hMi := hM.up hBi
    obtain ⟨ad, had, hcm⟩ := hMi.cells hvn
    subst had
    have hlv := rdl wi hBi v hvn
    have hge := hLge v hvn
    have hrb := rowB_of_blk (hMi.blk v hvn) (by rw [hcol v hvn]; omega)
    by_cases hneg : l v = -1
    · have hnv := hnone v hvn hneg
      conv => whnf
      (repeat' (first | (refine wl_Lg tabOk hb3i rfl rfl rfl rfl rfl rfl rfl (run_l tabOk ?_); conv => whnf) | (refine wl_L tabOk rfl rfl rfl rfl rfl rfl hlv (run_l tabOk ?_); conv => whnf) | (refine wl_L tabOk rfl rfl rfl rfl rfl rfl hcm (run_l tabOk ?_); conv => whnf) | (refine wl_Xn tabOk 3 1 rfl rfl rfl rfl rfl rfl rfl (by omega) (run_l tabOk ?_); conv => whnf) | (refine wl_X tabOk 27 1 rfl rfl rfl rfl rfl rfl rfl (by omega) (by omega) (run_l tabOk ?_); conv => whnf) | (refine wl_add rfl rfl rfl rfl rfl rfl (by omega) (by omega) (run_l tabOk ?_); conv => whnf) | (refine wl_sub rfl rfl rfl rfl rfl rfl (by omega) (by omega) (run_l tabOk ?_); conv => whnf) | (refine wl_cvA tabOk rfl rfl rfl (by simp only [inK]; omega) rfl rfl rfl (run_l tabOk ?_); conv => whnf) | (refine wl_cvB tabOk rfl rfl rfl rfl rfl rfl (run_l tabOk ?_); conv => whnf) | (refine wl_rem rfl rfl rfl rfl rfl rfl (by omega) (by omega) (fun r hr hr0 hr1 hr2 => run_l tabOk ?_); conv => whnf) | (refine wl_quo rfl rfl rfl rfl rfl rfl (by omega) (by omega) (by simp only [inK]; omega) (run_l tabOk ?_); conv => whnf) | (refine wl_mul rfl rfl rfl rfl rfl rfl (by omega) (by omega) (run_l tabOk ?_); conv => whnf) | (refine gs_dt (by first | assumption | omega) ?_; conv => whnf) | (refine gs_df (by first | assumption | omega) ?_; conv => whnf) | (refine gs_t (by assumption) ?_; conv => whnf) | (refine gs_f (by assumption) ?_; conv => whnf) | (refine gs_d (fun hg => ?_) (fun hg => ?_) <;> conv => whnf) | (refine gs_n (fun hg => ?_) (fun hg => ?_) <;> conv => whnf) | (refine gs_nb (fun hg => ?_) (fun hg => ?_) <;> conv => whnf) | (refine gs_b (fun hg => ?_) (fun hg => ?_) <;> conv => whnf) | refine fin1 rfl rfl ?_))
      refine wl_C fn19 (refNoneT _ _ _ hrb (hcol v hvn) hnv) rfl rfl rfl rfl rfl rfl rfl ?_
      rintro _ w12 ⟨rfl, hB12⟩
      refine ⟨_, rfl, run_l tabOk ?_⟩
      conv => whnf
      (repeat' (first | (refine wl_add rfl rfl rfl rfl rfl rfl (by omega) (by omega) (run_l tabOk ?_); conv => whnf) | (refine wl_sub rfl rfl rfl rfl rfl rfl (by omega) (by omega) (run_l tabOk ?_); conv => whnf) | (refine wl_cvA tabOk rfl rfl rfl (by simp only [inK]; omega) rfl rfl rfl (run_l tabOk ?_); conv => whnf) | (refine wl_cvB tabOk rfl rfl rfl rfl rfl rfl (run_l tabOk ?_); conv => whnf) | (refine wl_rem rfl rfl rfl rfl rfl rfl (by omega) (by omega) (fun r hr hr0 hr1 hr2 => run_l tabOk ?_); conv => whnf) | (refine wl_quo rfl rfl rfl rfl rfl rfl (by omega) (by omega) (by simp only [inK]; omega) (run_l tabOk ?_); conv => whnf) | (refine wl_mul rfl rfl rfl rfl rfl rfl (by omega) (by omega) (run_l tabOk ?_); conv => whnf) | (refine gs_dt (by first | assumption | omega) ?_; conv => whnf) | (refine gs_df (by first | assumption | omega) ?_; conv => whnf) | (refine gs_t (by assumption) ?_; conv => whnf) | (refine gs_f (by assumption) ?_; conv => whnf) | (refine gs_d (fun hg => ?_) (fun hg => ?_) <;> conv => whnf) | (refine gs_n (fun hg => ?_) (fun hg => ?_) <;> conv => whnf) | (refine gs_nb (fun hg => ?_) (fun hg => ?_) <;> conv => whnf) | (refine gs_b (fun hg => ?_) (fun hg => ?_) <;> conv => whnf) | refine fin1 rfl rfl ?_))
      refine lp_loop tabOk (X := Nat) (fun u => [(3, .pointer (some ⟨g3, 0, none⟩)), (5, .slice (some ⟨go, 0, none⟩) n n), (6, .slice (some ad) n cap), (8, .slice (some ⟨go2, 0, none⟩) (2 * n) (2 * n)), (9, .int .i64 (v : Int)), (10, .int .i64 (u : Int))]) (fun u wk => u ≤ v ∧ Below w11.heap.size w11 wk) (fun u => v - u) 0 ⟨rfl, rfl, rfl, rfl, rfl, rfl, trivial⟩ ⟨by omega, bup hBi hB12⟩ ?_
      rintro u G3 wk ⟨hu, hBk⟩
      by_cases huv : u < v
      · have hun : u < n := by omega
        have hMk := hM.up hBk
        obtain ⟨ad3, had3, hcv⟩ := hMk.cells hvn
        obtain ⟨ad2, had2, hcu⟩ := hMk.cells hun
        have e3 : ad3 = ad := by injection had3 with e; exact e.symm
        have e2 : ad2 = ad := by injection had2 with e; exact e.symm
        subst e3
        subst e2
        have hlv2 := rdl wk hBk v hvn
        have hlu := rdl wk hBk u hun
        have ov := rdo wk hBk v hvn
        have ou := rdo wk hBk u hun
        have hrv := rowB_of_blk (hMk.blk v hvn) (by rw [hcol v hvn]; omega)
        have hru := rowB_of_blk (hMk.blk u hun) (by rw [hcol u hun]; omega)
        by_cases he : l v = l u
        · have her := hrow v u hvn hun he
          by_cases hoo : of2 v = of2 u
          · conv => whnf
            (repeat' (first | (refine wl_add rfl rfl rfl rfl rfl rfl (by omega) (by omega) (run_l tabOk ?_); conv => whnf) | (refine wl_sub rfl rfl rfl rfl rfl rfl (by omega) (by omega) (run_l tabOk ?_); conv => whnf) | (refine wl_cvA tabOk rfl rfl rfl (by simp only [inK]; omega) rfl rfl rfl (run_l tabOk ?_); conv => whnf) | (refine wl_cvB tabOk rfl rfl rfl rfl rfl rfl (run_l tabOk ?_); conv => whnf) | (refine wl_rem rfl rfl rfl rfl rfl rfl (by omega) (by omega) (fun r hr hr0 hr1 hr2 => run_l tabOk ?_); conv => whnf) | (refine wl_quo rfl rfl rfl rfl rfl rfl (by omega) (by omega) (by simp only [inK]; omega) (run_l tabOk ?_); conv => whnf) | (refine wl_mul rfl rfl rfl rfl rfl rfl (by omega) (by omega) (run_l tabOk ?_); conv => whnf) | (refine gs_dt (by first | assumption | omega) ?_; conv => whnf) | (refine gs_df (by first | assumption | omega) ?_; conv => whnf) | (refine gs_t (by assumption) ?_; conv => whnf) | (refine gs_f (by assumption) ?_; conv => whnf) | (refine gs_d (fun hg => ?_) (fun hg => ?_) <;> conv => whnf) | (refine gs_n (fun hg => ?_) (fun hg => ?_) <;> conv => whnf) | (refine gs_nb (fun hg => ?_) (fun hg => ?_) <;> conv => whnf) | (refine gs_b (fun hg => ?_) (fun hg => ?_) <;> conv => whnf) | refine fin1 rfl rfl ?_))
            refine wc_qr tabOk mixed (by kernel_rfl) ?_; conv => whnf
            (repeat' (first | (refine wq_L tabOk rfl rfl rfl rfl rfl rfl hlv2 (run_q tabOk ?_); conv => whnf) | (refine wq_L tabOk rfl rfl rfl rfl rfl rfl hlu (run_q tabOk ?_); conv => whnf) | (refine wq_L tabOk rfl rfl rfl rfl rfl rfl hcv (run_q tabOk ?_); conv => whnf) | (refine wq_L tabOk rfl rfl rfl rfl rfl rfl hcu (run_q tabOk ?_); conv => whnf) | (refine wq_L tabOk rfl rfl rfl rfl rfl rfl ov (run_q tabOk ?_); conv => whnf) | (refine wq_L tabOk rfl rfl rfl rfl rfl rfl ou (run_q tabOk ?_); conv => whnf) | (refine wq_Xn tabOk 3 1 rfl rfl rfl rfl rfl rfl rfl (by omega) (run_q tabOk ?_); conv => whnf) | (refine wq_X tabOk 27 1 rfl rfl rfl rfl rfl rfl rfl (by omega) (by omega) (run_q tabOk ?_); conv => whnf) | (refine wq_C fn20 (fun w _ => refSameT _ _ _ _ w (hrv.up stays_B (by assumption)) (hru.up stays_B (by assumption)) (hcol v hvn) her) rfl rfl rfl rfl rfl rfl rfl (run_q tabOk ?_); conv => whnf) | (refine wq_add rfl rfl rfl rfl rfl rfl (by omega) (by omega) (run_q tabOk ?_); conv => whnf) | (refine wq_sub rfl rfl rfl rfl rfl rfl (by omega) (by omega) (run_q tabOk ?_); conv => whnf) | (refine wq_cvA tabOk rfl rfl rfl (by simp only [inK]; omega) rfl rfl rfl (run_q tabOk ?_); conv => whnf) | (refine wq_cvB tabOk rfl rfl rfl rfl rfl rfl (run_q tabOk ?_); conv => whnf) | (refine wq_rem rfl rfl rfl rfl rfl rfl (by omega) (by omega) (fun r hr hr0 hr1 hr2 => run_q tabOk ?_); conv => whnf) | (refine wq_quo rfl rfl rfl rfl rfl rfl (by omega) (by omega) (by simp only [inK]; omega) (run_q tabOk ?_); conv => whnf) | (refine wq_mul rfl rfl rfl rfl rfl rfl (by omega) (by omega) (run_q tabOk ?_); conv => whnf) | (refine gs_dt (by first | assumption | omega) ?_; conv => whnf) | (refine gs_df (by first | assumption | omega) ?_; conv => whnf) | (refine gs_t (by assumption) ?_; conv => whnf) | (refine gs_f (by assumption) ?_; conv => whnf) | (refine gs_d (fun hg => ?_) (fun hg => ?_) <;> conv => whnf) | (refine gs_n (fun hg => ?_) (fun hg => ?_) <;> conv => whnf) | (refine gs_nb (fun hg => ?_) (fun hg => ?_) <;> conv => whnf) | (refine gs_b (fun hg => ?_) (fun hg => ?_) <;> conv => whnf)))
            intro w13 hB13
            conv => whnf
            (repeat' (first | (refine wl_add rfl rfl rfl rfl rfl rfl (by omega) (by omega) (run_l tabOk ?_); conv => whnf) | (refine wl_sub rfl rfl rfl rfl rfl rfl (by omega) (by omega) (run_l tabOk ?_); conv => whnf) | (refine wl_cvA tabOk rfl rfl rfl (by simp only [inK]; omega) rfl rfl rfl (run_l tabOk ?_); conv => whnf) | (refine wl_cvB tabOk rfl rfl rfl rfl rfl rfl (run_l tabOk ?_); conv => whnf) | (refine wl_rem rfl rfl rfl rfl rfl rfl (by omega) (by omega) (fun r hr hr0 hr1 hr2 => run_l tabOk ?_); conv => whnf) | (refine wl_quo rfl rfl rfl rfl rfl rfl (by omega) (by omega) (by simp only [inK]; omega) (run_l tabOk ?_); conv => whnf) | (refine wl_mul rfl rfl rfl rfl rfl rfl (by omega) (by omega) (run_l tabOk ?_); conv => whnf) | (refine gs_dt (by first | assumption | omega) ?_; conv => whnf) | (refine gs_df (by first | assumption | omega) ?_; conv => whnf) | (refine gs_t (by assumption) ?_; conv => whnf) | (refine gs_f (by assumption) ?_; conv => whnf) | (refine gs_d (fun hg => ?_) (fun hg => ?_) <;> conv => whnf) | (refine gs_n (fun hg => ?_) (fun hg => ?_) <;> conv => whnf) | (refine gs_nb (fun hg => ?_) (fun hg => ?_) <;> conv => whnf) | (refine gs_b (fun hg => ?_) (fun hg => ?_) <;> conv => whnf) | refine fin1 rfl rfl ?_))
            exact ⟨u + 1, ⟨rfl, rfl, rfl, rfl, rfl, rfl, trivial⟩, ⟨by omega, bup hBk hB13⟩, by omega⟩
          · conv => whnf
            (repeat' (first | (refine wl_add rfl rfl rfl rfl rfl rfl (by omega) (by omega) (run_l tabOk ?_); conv => whnf) | (refine wl_sub rfl rfl rfl rfl rfl rfl (by omega) (by omega) (run_l tabOk ?_); conv => whnf) | (refine wl_cvA tabOk rfl rfl rfl (by simp only [inK]; omega) rfl rfl rfl (run_l tabOk ?_); conv => whnf) | (refine wl_cvB tabOk rfl rfl rfl rfl rfl rfl (run_l tabOk ?_); conv => whnf) | (refine wl_rem rfl rfl rfl rfl rfl rfl (by omega) (by omega) (fun r hr hr0 hr1 hr2 => run_l tabOk ?_); conv => whnf) | (refine wl_quo rfl rfl rfl rfl rfl rfl (by omega) (by omega) (by simp only [inK]; omega) (run_l tabOk ?_); conv => whnf) | (refine wl_mul rfl rfl rfl rfl rfl rfl (by omega) (by omega) (run_l tabOk ?_); conv => whnf) | (refine gs_dt (by first | assumption | omega) ?_; conv => whnf) | (refine gs_df (by first | assumption | omega) ?_; conv => whnf) | (refine gs_t (by assumption) ?_; conv => whnf) | (refine gs_f (by assumption) ?_; conv => whnf) | (refine gs_d (fun hg => ?_) (fun hg => ?_) <;> conv => whnf) | (refine gs_n (fun hg => ?_) (fun hg => ?_) <;> conv => whnf) | (refine gs_nb (fun hg => ?_) (fun hg => ?_) <;> conv => whnf) | (refine gs_b (fun hg => ?_) (fun hg => ?_) <;> conv => whnf) | refine fin1 rfl rfl ?_))
            refine wc_qr tabOk mixed (by kernel_rfl) ?_; conv => whnf
            (repeat' (first | (refine wq_L tabOk rfl rfl rfl rfl rfl rfl hlv2 (run_q tabOk ?_); conv => whnf) | (refine wq_L tabOk rfl rfl rfl rfl rfl rfl hlu (run_q tabOk ?_); conv => whnf) | (refine wq_L tabOk rfl rfl rfl rfl rfl rfl hcv (run_q tabOk ?_); conv => whnf) | (refine wq_L tabOk rfl rfl rfl rfl rfl rfl hcu (run_q tabOk ?_); conv => whnf) | (refine wq_L tabOk rfl rfl rfl rfl rfl rfl ov (run_q tabOk ?_); conv => whnf) | (refine wq_L tabOk rfl rfl rfl rfl rfl rfl ou (run_q tabOk ?_); conv => whnf) | (refine wq_Xn tabOk 3 1 rfl rfl rfl rfl rfl rfl rfl (by omega) (run_q tabOk ?_); conv => whnf) | (refine wq_X tabOk 27 1 rfl rfl rfl rfl rfl rfl rfl (by omega) (by omega) (run_q tabOk ?_); conv => whnf) | (refine wq_C fn20 (fun w _ => refSameT _ _ _ _ w (hrv.up stays_B (by assumption)) (hru.up stays_B (by assumption)) (hcol v hvn) her) rfl rfl rfl rfl rfl rfl rfl (run_q tabOk ?_); conv => whnf) | (refine wq_add rfl rfl rfl rfl rfl rfl (by omega) (by omega) (run_q tabOk ?_); conv => whnf) | (refine wq_sub rfl rfl rfl rfl rfl rfl (by omega) (by omega) (run_q tabOk ?_); conv => whnf) | (refine wq_cvA tabOk rfl rfl rfl (by simp only [inK]; omega) rfl rfl rfl (run_q tabOk ?_); conv => whnf) | (refine wq_cvB tabOk rfl rfl rfl rfl rfl rfl (run_q tabOk ?_); conv => whnf) | (refine wq_rem rfl rfl rfl rfl rfl rfl (by omega) (by omega) (fun r hr hr0 hr1 hr2 => run_q tabOk ?_); conv => whnf) | (refine wq_quo rfl rfl rfl rfl rfl rfl (by omega) (by omega) (by simp only [inK]; omega) (run_q tabOk ?_); conv => whnf) | (refine wq_mul rfl rfl rfl rfl rfl rfl (by omega) (by omega) (run_q tabOk ?_); conv => whnf) | (refine gs_dt (by first | assumption | omega) ?_; conv => whnf) | (refine gs_df (by first | assumption | omega) ?_; conv => whnf) | (refine gs_t (by assumption) ?_; conv => whnf) | (refine gs_f (by assumption) ?_; conv => whnf) | (refine gs_d (fun hg => ?_) (fun hg => ?_) <;> conv => whnf) | (refine gs_n (fun hg => ?_) (fun hg => ?_) <;> conv => whnf) | (refine gs_nb (fun hg => ?_) (fun hg => ?_) <;> conv => whnf) | (refine gs_b (fun hg => ?_) (fun hg => ?_) <;> conv => whnf)))
            intro w13 hB13
            conv => whnf
            (repeat' (first | (refine wl_add rfl rfl rfl rfl rfl rfl (by omega) (by omega) (run_l tabOk ?_); conv => whnf) | (refine wl_sub rfl rfl rfl rfl rfl rfl (by omega) (by omega) (run_l tabOk ?_); conv => whnf) | (refine wl_cvA tabOk rfl rfl rfl (by simp only [inK]; omega) rfl rfl rfl (run_l tabOk ?_); conv => whnf) | (refine wl_cvB tabOk rfl rfl rfl rfl rfl rfl (run_l tabOk ?_); conv => whnf) | (refine wl_rem rfl rfl rfl rfl rfl rfl (by omega) (by omega) (fun r hr hr0 hr1 hr2 => run_l tabOk ?_); conv => whnf) | (refine wl_quo rfl rfl rfl rfl rfl rfl (by omega) (by omega) (by simp only [inK]; omega) (run_l tabOk ?_); conv => whnf) | (refine wl_mul rfl rfl rfl rfl rfl rfl (by omega) (by omega) (run_l tabOk ?_); conv => whnf) | (refine gs_dt (by first | assumption | omega) ?_; conv => whnf) | (refine gs_df (by first | assumption | omega) ?_; conv => whnf) | (refine gs_t (by assumption) ?_; conv => whnf) | (refine gs_f (by assumption) ?_; conv => whnf) | (refine gs_d (fun hg => ?_) (fun hg => ?_) <;> conv => whnf) | (refine gs_n (fun hg => ?_) (fun hg => ?_) <;> conv => whnf) | (refine gs_nb (fun hg => ?_) (fun hg => ?_) <;> conv => whnf) | (refine gs_b (fun hg => ?_) (fun hg => ?_) <;> conv => whnf) | refine fin1 rfl rfl ?_))
            exact ⟨u + 1, ⟨rfl, rfl, rfl, rfl, rfl, rfl, trivial⟩, ⟨by omega, bup hBk hB13⟩, by omega⟩
        · have hoo : ¬ of2 v = of2 u := fun e => he (hofl v u hvn hun e)
          conv => whnf
          (repeat' (first | (refine wl_add rfl rfl rfl rfl rfl rfl (by omega) (by omega) (run_l tabOk ?_); conv => whnf) | (refine wl_sub rfl rfl rfl rfl rfl rfl (by omega) (by omega) (run_l tabOk ?_); conv => whnf) | (refine wl_cvA tabOk rfl rfl rfl (by simp only [inK]; omega) rfl rfl rfl (run_l tabOk ?_); conv => whnf) | (refine wl_cvB tabOk rfl rfl rfl rfl rfl rfl (run_l tabOk ?_); conv => whnf) | (refine wl_rem rfl rfl rfl rfl rfl rfl (by omega) (by omega) (fun r hr hr0 hr1 hr2 => run_l tabOk ?_); conv => whnf) | (refine wl_quo rfl rfl rfl rfl rfl rfl (by omega) (by omega) (by simp only [inK]; omega) (run_l tabOk ?_); conv => whnf) | (refine wl_mul rfl rfl rfl rfl rfl rfl (by omega) (by omega) (run_l tabOk ?_); conv => whnf) | (refine gs_dt (by first | assumption | omega) ?_; conv => whnf) | (refine gs_df (by first | assumption | omega) ?_; conv => whnf) | (refine gs_t (by assumption) ?_; conv => whnf) | (refine gs_f (by assumption) ?_; conv => whnf) | (refine gs_d (fun hg => ?_) (fun hg => ?_) <;> conv => whnf) | (refine gs_n (fun hg => ?_) (fun hg => ?_) <;> conv => whnf) | (refine gs_nb (fun hg => ?_) (fun hg => ?_) <;> conv => whnf) | (refine gs_b (fun hg => ?_) (fun hg => ?_) <;> conv => whnf) | refine fin1 rfl rfl ?_))
          refine wc_qr tabOk mixed (by kernel_rfl) ?_; conv => whnf
          (repeat' (first | (refine wq_L tabOk rfl rfl rfl rfl rfl rfl hlv2 (run_q tabOk ?_); conv => whnf) | (refine wq_L tabOk rfl rfl rfl rfl rfl rfl hlu (run_q tabOk ?_); conv => whnf) | (refine wq_L tabOk rfl rfl rfl rfl rfl rfl hcv (run_q tabOk ?_); conv => whnf) | (refine wq_L tabOk rfl rfl rfl rfl rfl rfl hcu (run_q tabOk ?_); conv => whnf) | (refine wq_L tabOk rfl rfl rfl rfl rfl rfl ov (run_q tabOk ?_); conv => whnf) | (refine wq_L tabOk rfl rfl rfl rfl rfl rfl ou (run_q tabOk ?_); conv => whnf) | (refine wq_Xn tabOk 3 1 rfl rfl rfl rfl rfl rfl rfl (by omega) (run_q tabOk ?_); conv => whnf) | (refine wq_X tabOk 27 1 rfl rfl rfl rfl rfl rfl rfl (by omega) (by omega) (run_q tabOk ?_); conv => whnf) | (refine wq_add rfl rfl rfl rfl rfl rfl (by omega) (by omega) (run_q tabOk ?_); conv => whnf) | (refine wq_sub rfl rfl rfl rfl rfl rfl (by omega) (by omega) (run_q tabOk ?_); conv => whnf) | (refine wq_cvA tabOk rfl rfl rfl (by simp only [inK]; omega) rfl rfl rfl (run_q tabOk ?_); conv => whnf) | (refine wq_cvB tabOk rfl rfl rfl rfl rfl rfl (run_q tabOk ?_); conv => whnf) | (refine wq_rem rfl rfl rfl rfl rfl rfl (by omega) (by omega) (fun r hr hr0 hr1 hr2 => run_q tabOk ?_); conv => whnf) | (refine wq_quo rfl rfl rfl rfl rfl rfl (by omega) (by omega) (by simp only [inK]; omega) (run_q tabOk ?_); conv => whnf) | (refine wq_mul rfl rfl rfl rfl rfl rfl (by omega) (by omega) (run_q tabOk ?_); conv => whnf) | (refine gs_dt (by first | assumption | omega) ?_; conv => whnf) | (refine gs_df (by first | assumption | omega) ?_; conv => whnf) | (refine gs_t (by assumption) ?_; conv => whnf) | (refine gs_f (by assumption) ?_; conv => whnf) | (refine gs_d (fun hg => ?_) (fun hg => ?_) <;> conv => whnf) | (refine gs_n (fun hg => ?_) (fun hg => ?_) <;> conv => whnf) | (refine gs_nb (fun hg => ?_) (fun hg => ?_) <;> conv => whnf) | (refine gs_b (fun hg => ?_) (fun hg => ?_) <;> conv => whnf)))
          intro w13 hB13
          conv => whnf
          (repeat' (first | (refine wl_add rfl rfl rfl rfl rfl rfl (by omega) (by omega) (run_l tabOk ?_); conv => whnf) | (refine wl_sub rfl rfl rfl rfl rfl rfl (by omega) (by omega) (run_l tabOk ?_); conv => whnf) | (refine wl_cvA tabOk rfl rfl rfl (by simp only [inK]; omega) rfl rfl rfl (run_l tabOk ?_); conv => whnf) | (refine wl_cvB tabOk rfl rfl rfl rfl rfl rfl (run_l tabOk ?_); conv => whnf) | (refine wl_rem rfl rfl rfl rfl rfl rfl (by omega) (by omega) (fun r hr hr0 hr1 hr2 => run_l tabOk ?_); conv => whnf) | (refine wl_quo rfl rfl rfl rfl rfl rfl (by omega) (by omega) (by simp only [inK]; omega) (run_l tabOk ?_); conv => whnf) | (refine wl_mul rfl rfl rfl rfl rfl rfl (by omega) (by omega) (run_l tabOk ?_); conv => whnf) | (refine gs_dt (by first | assumption | omega) ?_; conv => whnf) | (refine gs_df (by first | assumption | omega) ?_; conv => whnf) | (refine gs_t (by assumption) ?_; conv => whnf) | (refine gs_f (by assumption) ?_; conv => whnf) | (refine gs_d (fun hg => ?_) (fun hg => ?_) <;> conv => whnf) | (refine gs_n (fun hg => ?_) (fun hg => ?_) <;> conv => whnf) | (refine gs_nb (fun hg => ?_) (fun hg => ?_) <;> conv => whnf) | (refine gs_b (fun hg => ?_) (fun hg => ?_) <;> conv => whnf) | refine fin1 rfl rfl ?_))
          exact ⟨u + 1, ⟨rfl, rfl, rfl, rfl, rfl, rfl, trivial⟩, ⟨by omega, bup hBk hB13⟩, by omega⟩
      · conv => whnf
        (repeat' (first | (refine wl_add rfl rfl rfl rfl rfl rfl (by omega) (by omega) (run_l tabOk ?_); conv => whnf) | (refine wl_sub rfl rfl rfl rfl rfl rfl (by omega) (by omega) (run_l tabOk ?_); conv => whnf) | (refine wl_cvA tabOk rfl rfl rfl (by simp only [inK]; omega) rfl rfl rfl (run_l tabOk ?_); conv => whnf) | (refine wl_cvB tabOk rfl rfl rfl rfl rfl rfl (run_l tabOk ?_); conv => whnf) | (refine wl_rem rfl rfl rfl rfl rfl rfl (by omega) (by omega) (fun r hr hr0 hr1 hr2 => run_l tabOk ?_); conv => whnf) | (refine wl_quo rfl rfl rfl rfl rfl rfl (by omega) (by omega) (by simp only [inK]; omega) (run_l tabOk ?_); conv => whnf) | (refine wl_mul rfl rfl rfl rfl rfl rfl (by omega) (by omega) (run_l tabOk ?_); conv => whnf) | (refine gs_dt (by first | assumption | omega) ?_; conv => whnf) | (refine gs_df (by first | assumption | omega) ?_; conv => whnf) | (refine gs_t (by assumption) ?_; conv => whnf) | (refine gs_f (by assumption) ?_; conv => whnf) | (refine gs_d (fun hg => ?_) (fun hg => ?_) <;> conv => whnf) | (refine gs_n (fun hg => ?_) (fun hg => ?_) <;> conv => whnf) | (refine gs_nb (fun hg => ?_) (fun hg => ?_) <;> conv => whnf) | (refine gs_b (fun hg => ?_) (fun hg => ?_) <;> conv => whnf) | refine fin1 rfl rfl ?_))
        exact ⟨v + 1, ⟨rfl, rfl, rfl, rfl, rfl, trivial⟩, ⟨by omega, hBk⟩, by omega⟩
    · conv => whnf
      (repeat' (first | (refine wl_Lg tabOk hb3i rfl rfl rfl rfl rfl rfl rfl (run_l tabOk ?_); conv => whnf) | (refine wl_L tabOk rfl rfl rfl rfl rfl rfl hlv (run_l tabOk ?_); conv => whnf) | (refine wl_L tabOk rfl rfl rfl rfl rfl rfl hcm (run_l tabOk ?_); conv => whnf) | (refine wl_Xn tabOk 3 1 rfl rfl rfl rfl rfl rfl rfl (by omega) (run_l tabOk ?_); conv => whnf) | (refine wl_X tabOk 27 1 rfl rfl rfl rfl rfl rfl rfl (by omega) (by omega) (run_l tabOk ?_); conv => whnf) | (refine wl_add rfl rfl rfl rfl rfl rfl (by omega) (by omega) (run_l tabOk ?_); conv => whnf) | (refine wl_sub rfl rfl rfl rfl rfl rfl (by omega) (by omega) (run_l tabOk ?_); conv => whnf) | (refine wl_cvA tabOk rfl rfl rfl (by simp only [inK]; omega) rfl rfl rfl (run_l tabOk ?_); conv => whnf) | (refine wl_cvB tabOk rfl rfl rfl rfl rfl rfl (run_l tabOk ?_); conv => whnf) | (refine wl_rem rfl rfl rfl rfl rfl rfl (by omega) (by omega) (fun r hr hr0 hr1 hr2 => run_l tabOk ?_); conv => whnf) | (refine wl_quo rfl rfl rfl rfl rfl rfl (by omega) (by omega) (by simp only [inK]; omega) (run_l tabOk ?_); conv => whnf) | (refine wl_mul rfl rfl rfl rfl rfl rfl (by omega) (by omega) (run_l tabOk ?_); conv => whnf) | (refine gs_dt (by first | assumption | omega) ?_; conv => whnf) | (refine gs_df (by first | assumption | omega) ?_; conv => whnf) | (refine gs_t (by assumption) ?_; conv => whnf) | (refine gs_f (by assumption) ?_; conv => whnf) | (refine gs_d (fun hg => ?_) (fun hg => ?_) <;> conv => whnf) | (refine gs_n (fun hg => ?_) (fun hg => ?_) <;> conv => whnf) | (refine gs_nb (fun hg => ?_) (fun hg => ?_) <;> conv => whnf) | (refine gs_b (fun hg => ?_) (fun hg => ?_) <;> conv => whnf) | refine fin1 rfl rfl ?_))
      refine lp_loop tabOk (X := Nat) (fun u => [(3, .pointer (some ⟨g3, 0, none⟩)), (5, .slice (some ⟨go, 0, none⟩) n n), (6, .slice (some ad) n cap), (8, .slice (some ⟨go2, 0, none⟩) (2 * n) (2 * n)), (9, .int .i64 (v : Int)), (10, .int .i64 (u : Int))]) (fun u wk => u ≤ v ∧ Below w11.heap.size w11 wk) (fun u => v - u) 0 ⟨rfl, rfl, rfl, rfl, rfl, rfl, trivial⟩ ⟨by omega, hBi⟩ ?_
      rintro u G3 wk ⟨hu, hBk⟩
      by_cases huv : u < v
      · have hun : u < n := by omega
        have hMk := hM.up hBk
        obtain ⟨ad3, had3, hcv⟩ := hMk.cells hvn
        obtain ⟨ad2, had2, hcu⟩ := hMk.cells hun
        have e3 : ad3 = ad := by injection had3 with e; exact e.symm
        have e2 : ad2 = ad := by injection had2 with e; exact e.symm
        subst e3
        subst e2
        have hlv2 := rdl wk hBk v hvn
        have hlu := rdl wk hBk u hun
        have ov := rdo wk hBk v hvn
        have ou := rdo wk hBk u hun
        have hrv := rowB_of_blk (hMk.blk v hvn) (by rw [hcol v hvn]; omega)
        have hru := rowB_of_blk (hMk.blk u hun) (by rw [hcol u hun]; omega)
        by_cases he : l v = l u
        · have her := hrow v u hvn hun he
          by_cases hoo : of2 v = of2 u
          · conv => whnf
            (repeat' (first | (refine wl_add rfl rfl rfl rfl rfl rfl (by omega) (by omega) (run_l tabOk ?_); conv => whnf) | (refine wl_sub rfl rfl rfl rfl rfl rfl (by omega) (by omega) (run_l tabOk ?_); conv => whnf) | (refine wl_cvA tabOk rfl rfl rfl (by simp only [inK]; omega) rfl rfl rfl (run_l tabOk ?_); conv => whnf) | (refine wl_cvB tabOk rfl rfl rfl rfl rfl rfl (run_l tabOk ?_); conv => whnf) | (refine wl_rem rfl rfl rfl rfl rfl rfl (by omega) (by omega) (fun r hr hr0 hr1 hr2 => run_l tabOk ?_); conv => whnf) | (refine wl_quo rfl rfl rfl rfl rfl rfl (by omega) (by omega) (by simp only [inK]; omega) (run_l tabOk ?_); conv => whnf) | (refine wl_mul rfl rfl rfl rfl rfl rfl (by omega) (by omega) (run_l tabOk ?_); conv => whnf) | (refine gs_dt (by first | assumption | omega) ?_; conv => whnf) | (refine gs_df (by first | assumption | omega) ?_; conv => whnf) | (refine gs_t (by assumption) ?_; conv => whnf) | (refine gs_f (by assumption) ?_; conv => whnf) | (refine gs_d (fun hg => ?_) (fun hg => ?_) <;> conv => whnf) | (refine gs_n (fun hg => ?_) (fun hg => ?_) <;> conv => whnf) | (refine gs_nb (fun hg => ?_) (fun hg => ?_) <;> conv => whnf) | (refine gs_b (fun hg => ?_) (fun hg => ?_) <;> conv => whnf) | refine fin1 rfl rfl ?_))
            refine wc_qr tabOk mixed (by kernel_rfl) ?_; conv => whnf
            (repeat' (first | (refine wq_L tabOk rfl rfl rfl rfl rfl rfl hlv2 (run_q tabOk ?_); conv => whnf) | (refine wq_L tabOk rfl rfl rfl rfl rfl rfl hlu (run_q tabOk ?_); conv => whnf) | (refine wq_L tabOk rfl rfl rfl rfl rfl rfl hcv (run_q tabOk ?_); conv => whnf) | (refine wq_L tabOk rfl rfl rfl rfl rfl rfl hcu (run_q tabOk ?_); conv => whnf) | (refine wq_L tabOk rfl rfl rfl rfl rfl rfl ov (run_q tabOk ?_); conv => whnf) | (refine wq_L tabOk rfl rfl rfl rfl rfl rfl ou (run_q tabOk ?_); conv => whnf) | (refine wq_Xn tabOk 3 1 rfl rfl rfl rfl rfl rfl rfl (by omega) (run_q tabOk ?_); conv => whnf) | (refine wq_X tabOk 27 1 rfl rfl rfl rfl rfl rfl rfl (by omega) (by omega) (run_q tabOk ?_); conv => whnf) | (refine wq_C fn20 (fun w _ => refSameT _ _ _ _ w (hrv.up stays_B (by assumption)) (hru.up stays_B (by assumption)) (hcol v hvn) her) rfl rfl rfl rfl rfl rfl rfl (run_q tabOk ?_); conv => whnf) | (refine wq_add rfl rfl rfl rfl rfl rfl (by omega) (by omega) (run_q tabOk ?_); conv => whnf) | (refine wq_sub rfl rfl rfl rfl rfl rfl (by omega) (by omega) (run_q tabOk ?_); conv => whnf) | (refine wq_cvA tabOk rfl rfl rfl (by simp only [inK]; omega) rfl rfl rfl (run_q tabOk ?_); conv => whnf) | (refine wq_cvB tabOk rfl rfl rfl rfl rfl rfl (run_q tabOk ?_); conv => whnf) | (refine wq_rem rfl rfl rfl rfl rfl rfl (by omega) (by omega) (fun r hr hr0 hr1 hr2 => run_q tabOk ?_); conv => whnf) | (refine wq_quo rfl rfl rfl rfl rfl rfl (by omega) (by omega) (by simp only [inK]; omega) (run_q tabOk ?_); conv => whnf) | (refine wq_mul rfl rfl rfl rfl rfl rfl (by omega) (by omega) (run_q tabOk ?_); conv => whnf) | (refine gs_dt (by first | assumption | omega) ?_; conv => whnf) | (refine gs_df (by first | assumption | omega) ?_; conv => whnf) | (refine gs_t (by assumption) ?_; conv => whnf) | (refine gs_f (by assumption) ?_; conv => whnf) | (refine gs_d (fun hg => ?_) (fun hg => ?_) <;> conv => whnf) | (refine gs_n (fun hg => ?_) (fun hg => ?_) <;> conv => whnf) | (refine gs_nb (fun hg => ?_) (fun hg => ?_) <;> conv => whnf) | (refine gs_b (fun hg => ?_) (fun hg => ?_) <;> conv => whnf)))
            intro w13 hB13
            conv => whnf
            (repeat' (first | (refine wl_add rfl rfl rfl rfl rfl rfl (by omega) (by omega) (run_l tabOk ?_); conv => whnf) | (refine wl_sub rfl rfl rfl rfl rfl rfl (by omega) (by omega) (run_l tabOk ?_); conv => whnf) | (refine wl_cvA tabOk rfl rfl rfl (by simp only [inK]; omega) rfl rfl rfl (run_l tabOk ?_); conv => whnf) | (refine wl_cvB tabOk rfl rfl rfl rfl rfl rfl (run_l tabOk ?_); conv => whnf) | (refine wl_rem rfl rfl rfl rfl rfl rfl (by omega) (by omega) (fun r hr hr0 hr1 hr2 => run_l tabOk ?_); conv => whnf) | (refine wl_quo rfl rfl rfl rfl rfl rfl (by omega) (by omega) (by simp only [inK]; omega) (run_l tabOk ?_); conv => whnf) | (refine wl_mul rfl rfl rfl rfl rfl rfl (by omega) (by omega) (run_l tabOk ?_); conv => whnf) | (refine gs_dt (by first | assumption | omega) ?_; conv => whnf) | (refine gs_df (by first | assumption | omega) ?_; conv => whnf) | (refine gs_t (by assumption) ?_; conv => whnf) | (refine gs_f (by assumption) ?_; conv => whnf) | (refine gs_d (fun hg => ?_) (fun hg => ?_) <;> conv => whnf) | (refine gs_n (fun hg => ?_) (fun hg => ?_) <;> conv => whnf) | (refine gs_nb (fun hg => ?_) (fun hg => ?_) <;> conv => whnf) | (refine gs_b (fun hg => ?_) (fun hg => ?_) <;> conv => whnf) | refine fin1 rfl rfl ?_))
            exact ⟨u + 1, ⟨rfl, rfl, rfl, rfl, rfl, rfl, trivial⟩, ⟨by omega, bup hBk hB13⟩, by omega⟩
          · conv => whnf
            (repeat' (first | (refine wl_add rfl rfl rfl rfl rfl rfl (by omega) (by omega) (run_l tabOk ?_); conv => whnf) | (refine wl_sub rfl rfl rfl rfl rfl rfl (by omega) (by omega) (run_l tabOk ?_); conv => whnf) | (refine wl_cvA tabOk rfl rfl rfl (by simp only [inK]; omega) rfl rfl rfl (run_l tabOk ?_); conv => whnf) | (refine wl_cvB tabOk rfl rfl rfl rfl rfl rfl (run_l tabOk ?_); conv => whnf) | (refine wl_rem rfl rfl rfl rfl rfl rfl (by omega) (by omega) (fun r hr hr0 hr1 hr2 => run_l tabOk ?_); conv => whnf) | (refine wl_quo rfl rfl rfl rfl rfl rfl (by omega) (by omega) (by simp only [inK]; omega) (run_l tabOk ?_); conv => whnf) | (refine wl_mul rfl rfl rfl rfl rfl rfl (by omega) (by omega) (run_l tabOk ?_); conv => whnf) | (refine gs_dt (by first | assumption | omega) ?_; conv => whnf) | (refine gs_df (by first | assumption | omega) ?_; conv => whnf) | (refine gs_t (by assumption) ?_; conv => whnf) | (refine gs_f (by assumption) ?_; conv => whnf) | (refine gs_d (fun hg => ?_) (fun hg => ?_) <;> conv => whnf) | (refine gs_n (fun hg => ?_) (fun hg => ?_) <;> conv => whnf) | (refine gs_nb (fun hg => ?_) (fun hg => ?_) <;> conv => whnf) | (refine gs_b (fun hg => ?_) (fun hg => ?_) <;> conv => whnf) | refine fin1 rfl rfl ?_))
            refine wc_qr tabOk mixed (by kernel_rfl) ?_; conv => whnf
            (repeat' (first | (refine wq_L tabOk rfl rfl rfl rfl rfl rfl hlv2 (run_q tabOk ?_); conv => whnf) | (refine wq_L tabOk rfl rfl rfl rfl rfl rfl hlu (run_q tabOk ?_); conv => whnf) | (refine wq_L tabOk rfl rfl rfl rfl rfl rfl hcv (run_q tabOk ?_); conv => whnf) | (refine wq_L tabOk rfl rfl rfl rfl rfl rfl hcu (run_q tabOk ?_); conv => whnf) | (refine wq_L tabOk rfl rfl rfl rfl rfl rfl ov (run_q tabOk ?_); conv => whnf) | (refine wq_L tabOk rfl rfl rfl rfl rfl rfl ou (run_q tabOk ?_); conv => whnf) | (refine wq_Xn tabOk 3 1 rfl rfl rfl rfl rfl rfl rfl (by omega) (run_q tabOk ?_); conv => whnf) | (refine wq_X tabOk 27 1 rfl rfl rfl rfl rfl rfl rfl (by omega) (by omega) (run_q tabOk ?_); conv => whnf) | (refine wq_C fn20 (fun w _ => refSameT _ _ _ _ w (hrv.up stays_B (by assumption)) (hru.up stays_B (by assumption)) (hcol v hvn) her) rfl rfl rfl rfl rfl rfl rfl (run_q tabOk ?_); conv => whnf) | (refine wq_add rfl rfl rfl rfl rfl rfl (by omega) (by omega) (run_q tabOk ?_); conv => whnf) | (refine wq_sub rfl rfl rfl rfl rfl rfl (by omega) (by omega) (run_q tabOk ?_); conv => whnf) | (refine wq_cvA tabOk rfl rfl rfl (by simp only [inK]; omega) rfl rfl rfl (run_q tabOk ?_); conv => whnf) | (refine wq_cvB tabOk rfl rfl rfl rfl rfl rfl (run_q tabOk ?_); conv => whnf) | (refine wq_rem rfl rfl rfl rfl rfl rfl (by omega) (by omega) (fun r hr hr0 hr1 hr2 => run_q tabOk ?_); conv => whnf) | (refine wq_quo rfl rfl rfl rfl rfl rfl (by omega) (by omega) (by simp only [inK]; omega) (run_q tabOk ?_); conv => whnf) | (refine wq_mul rfl rfl rfl rfl rfl rfl (by omega) (by omega) (run_q tabOk ?_); conv => whnf) | (refine gs_dt (by first | assumption | omega) ?_; conv => whnf) | (refine gs_df (by first | assumption | omega) ?_; conv => whnf) | (refine gs_t (by assumption) ?_; conv => whnf) | (refine gs_f (by assumption) ?_; conv => whnf) | (refine gs_d (fun hg => ?_) (fun hg => ?_) <;> conv => whnf) | (refine gs_n (fun hg => ?_) (fun hg => ?_) <;> conv => whnf) | (refine gs_nb (fun hg => ?_) (fun hg => ?_) <;> conv => whnf) | (refine gs_b (fun hg => ?_) (fun hg => ?_) <;> conv => whnf)))
            intro w13 hB13
            conv => whnf
            (repeat' (first | (refine wl_add rfl rfl rfl rfl rfl rfl (by omega) (by omega) (run_l tabOk ?_); conv => whnf) | (refine wl_sub rfl rfl rfl rfl rfl rfl (by omega) (by omega) (run_l tabOk ?_); conv => whnf) | (refine wl_cvA tabOk rfl rfl rfl (by simp only [inK]; omega) rfl rfl rfl (run_l tabOk ?_); conv => whnf) | (refine wl_cvB tabOk rfl rfl rfl rfl rfl rfl (run_l tabOk ?_); conv => whnf) | (refine wl_rem rfl rfl rfl rfl rfl rfl (by omega) (by omega) (fun r hr hr0 hr1 hr2 => run_l tabOk ?_); conv => whnf) | (refine wl_quo rfl rfl rfl rfl rfl rfl (by omega) (by omega) (by simp only [inK]; omega) (run_l tabOk ?_); conv => whnf) | (refine wl_mul rfl rfl rfl rfl rfl rfl (by omega) (by omega) (run_l tabOk ?_); conv => whnf) | (refine gs_dt (by first | assumption | omega) ?_; conv => whnf) | (refine gs_df (by first | assumption | omega) ?_; conv => whnf) | (refine gs_t (by assumption) ?_; conv => whnf) | (refine gs_f (by assumption) ?_; conv => whnf) | (refine gs_d (fun hg => ?_) (fun hg => ?_) <;> conv => whnf) | (refine gs_n (fun hg => ?_) (fun hg => ?_) <;> conv => whnf) | (refine gs_nb (fun hg => ?_) (fun hg => ?_) <;> conv => whnf) | (refine gs_b (fun hg => ?_) (fun hg => ?_) <;> conv => whnf) | refine fin1 rfl rfl ?_))
            exact ⟨u + 1, ⟨rfl, rfl, rfl, rfl, rfl, rfl, trivial⟩, ⟨by omega, bup hBk hB13⟩, by omega⟩
        · have hoo : ¬ of2 v = of2 u := fun e => he (hofl v u hvn hun e)
          conv => whnf
          (repeat' (first | (refine wl_add rfl rfl rfl rfl rfl rfl (by omega) (by omega) (run_l tabOk ?_); conv => whnf) | (refine wl_sub rfl rfl rfl rfl rfl rfl (by omega) (by omega) (run_l tabOk ?_); conv => whnf) | (refine wl_cvA tabOk rfl rfl rfl (by simp only [inK]; omega) rfl rfl rfl (run_l tabOk ?_); conv => whnf) | (refine wl_cvB tabOk rfl rfl rfl rfl rfl rfl (run_l tabOk ?_); conv => whnf) | (refine wl_rem rfl rfl rfl rfl rfl rfl (by omega) (by omega) (fun r hr hr0 hr1 hr2 => run_l tabOk ?_); conv => whnf) | (refine wl_quo rfl rfl rfl rfl rfl rfl (by omega) (by omega) (by simp only [inK]; omega) (run_l tabOk ?_); conv => whnf) | (refine wl_mul rfl rfl rfl rfl rfl rfl (by omega) (by omega) (run_l tabOk ?_); conv => whnf) | (refine gs_dt (by first | assumption | omega) ?_; conv => whnf) | (refine gs_df (by first | assumption | omega) ?_; conv => whnf) | (refine gs_t (by assumption) ?_; conv => whnf) | (refine gs_f (by assumption) ?_; conv => whnf) | (refine gs_d (fun hg => ?_) (fun hg => ?_) <;> conv => whnf) | (refine gs_n (fun hg => ?_) (fun hg => ?_) <;> conv => whnf) | (refine gs_nb (fun hg => ?_) (fun hg => ?_) <;> conv => whnf) | (refine gs_b (fun hg => ?_) (fun hg => ?_) <;> conv => whnf) | refine fin1 rfl rfl ?_))
          refine wc_qr tabOk mixed (by kernel_rfl) ?_; conv => whnf
          (repeat' (first | (refine wq_L tabOk rfl rfl rfl rfl rfl rfl hlv2 (run_q tabOk ?_); conv => whnf) | (refine wq_L tabOk rfl rfl rfl rfl rfl rfl hlu (run_q tabOk ?_); conv => whnf) | (refine wq_L tabOk rfl rfl rfl rfl rfl rfl hcv (run_q tabOk ?_); conv => whnf) | (refine wq_L tabOk rfl rfl rfl rfl rfl rfl hcu (run_q tabOk ?_); conv => whnf) | (refine wq_L tabOk rfl rfl rfl rfl rfl rfl ov (run_q tabOk ?_); conv => whnf) | (refine wq_L tabOk rfl rfl rfl rfl rfl rfl ou (run_q tabOk ?_); conv => whnf) | (refine wq_Xn tabOk 3 1 rfl rfl rfl rfl rfl rfl rfl (by omega) (run_q tabOk ?_); conv => whnf) | (refine wq_X tabOk 27 1 rfl rfl rfl rfl rfl rfl rfl (by omega) (by omega) (run_q tabOk ?_); conv => whnf) | (refine wq_add rfl rfl rfl rfl rfl rfl (by omega) (by omega) (run_q tabOk ?_); conv => whnf) | (refine wq_sub rfl rfl rfl rfl rfl rfl (by omega) (by omega) (run_q tabOk ?_); conv => whnf) | (refine wq_cvA tabOk rfl rfl rfl (by simp only [inK]; omega) rfl rfl rfl (run_q tabOk ?_); conv => whnf) | (refine wq_cvB tabOk rfl rfl rfl rfl rfl rfl (run_q tabOk ?_); conv => whnf) | (refine wq_rem rfl rfl rfl rfl rfl rfl (by omega) (by omega) (fun r hr hr0 hr1 hr2 => run_q tabOk ?_); conv => whnf) | (refine wq_quo rfl rfl rfl rfl rfl rfl (by omega) (by omega) (by simp only [inK]; omega) (run_q tabOk ?_); conv => whnf) | (refine wq_mul rfl rfl rfl rfl rfl rfl (by omega) (by omega) (run_q tabOk ?_); conv => whnf) | (refine gs_dt (by first | assumption | omega) ?_; conv => whnf) | (refine gs_df (by first | assumption | omega) ?_; conv => whnf) | (refine gs_t (by assumption) ?_; conv => whnf) | (refine gs_f (by assumption) ?_; conv => whnf) | (refine gs_d (fun hg => ?_) (fun hg => ?_) <;> conv => whnf) | (refine gs_n (fun hg => ?_) (fun hg => ?_) <;> conv => whnf) | (refine gs_nb (fun hg => ?_) (fun hg => ?_) <;> conv => whnf) | (refine gs_b (fun hg => ?_) (fun hg => ?_) <;> conv => whnf)))
          intro w13 hB13
          conv => whnf
          (repeat' (first | (refine wl_add rfl rfl rfl rfl rfl rfl (by omega) (by omega) (run_l tabOk ?_); conv => whnf) | (refine wl_sub rfl rfl rfl rfl rfl rfl (by omega) (by omega) (run_l tabOk ?_); conv => whnf) | (refine wl_cvA tabOk rfl rfl rfl (by simp only [inK]; omega) rfl rfl rfl (run_l tabOk ?_); conv => whnf) | (refine wl_cvB tabOk rfl rfl rfl rfl rfl rfl (run_l tabOk ?_); conv => whnf) | (refine wl_rem rfl rfl rfl rfl rfl rfl (by omega) (by omega) (fun r hr hr0 hr1 hr2 => run_l tabOk ?_); conv => whnf) | (refine wl_quo rfl rfl rfl rfl rfl rfl (by omega) (by omega) (by simp only [inK]; omega) (run_l tabOk ?_); conv => whnf) | (refine wl_mul rfl rfl rfl rfl rfl rfl (by omega) (by omega) (run_l tabOk ?_); conv => whnf) | (refine gs_dt (by first | assumption | omega) ?_; conv => whnf) | (refine gs_df (by first | assumption | omega) ?_; conv => whnf) | (refine gs_t (by assumption) ?_; conv => whnf) | (refine gs_f (by assumption) ?_; conv => whnf) | (refine gs_d (fun hg => ?_) (fun hg => ?_) <;> conv => whnf) | (refine gs_n (fun hg => ?_) (fun hg => ?_) <;> conv => whnf) | (refine gs_nb (fun hg => ?_) (fun hg => ?_) <;> conv => whnf) | (refine gs_b (fun hg => ?_) (fun hg => ?_) <;> conv => whnf) | refine fin1 rfl rfl ?_))
          exact ⟨u + 1, ⟨rfl, rfl, rfl, rfl, rfl, rfl, trivial⟩, ⟨by omega, bup hBk hB13⟩, by omega⟩
      · conv => whnf
        (repeat' (first | (refine wl_add rfl rfl rfl rfl rfl rfl (by omega) (by omega) (run_l tabOk ?_); conv => whnf) | (refine wl_sub rfl rfl rfl rfl rfl rfl (by omega) (by omega) (run_l tabOk ?_); conv => whnf) | (refine wl_cvA tabOk rfl rfl rfl (by simp only [inK]; omega) rfl rfl rfl (run_l tabOk ?_); conv => whnf) | (refine wl_cvB tabOk rfl rfl rfl rfl rfl rfl (run_l tabOk ?_); conv => whnf) | (refine wl_rem rfl rfl rfl rfl rfl rfl (by omega) (by omega) (fun r hr hr0 hr1 hr2 => run_l tabOk ?_); conv => whnf) | (refine wl_quo rfl rfl rfl rfl rfl rfl (by omega) (by omega) (by simp only [inK]; omega) (run_l tabOk ?_); conv => whnf) | (refine wl_mul rfl rfl rfl rfl rfl rfl (by omega) (by omega) (run_l tabOk ?_); conv => whnf) | (refine gs_dt (by first | assumption | omega) ?_; conv => whnf) | (refine gs_df (by first | assumption | omega) ?_; conv => whnf) | (refine gs_t (by assumption) ?_; conv => whnf) | (refine gs_f (by assumption) ?_; conv => whnf) | (refine gs_d (fun hg => ?_) (fun hg => ?_) <;> conv => whnf) | (refine gs_n (fun hg => ?_) (fun hg => ?_) <;> conv => whnf) | (refine gs_nb (fun hg => ?_) (fun hg => ?_) <;> conv => whnf) | (refine gs_b (fun hg => ?_) (fun hg => ?_) <;> conv => whnf) | refine fin1 rfl rfl ?_))
        exact ⟨v + 1, ⟨rfl, rfl, rfl, rfl, rfl, trivial⟩, ⟨by omega, hBk⟩, by omega⟩
  · conv => whnf
    (repeat' (first | (refine wl_Lg tabOk hb3i rfl rfl rfl rfl rfl rfl rfl (run_l tabOk ?_); conv => whnf) | (refine wl_add rfl rfl rfl rfl rfl rfl (by omega) (by omega) (run_l tabOk ?_); conv => whnf) | (refine wl_sub rfl rfl rfl rfl rfl rfl (by omega) (by omega) (run_l tabOk ?_); conv => whnf) | (refine wl_cvA tabOk rfl rfl rfl (by simp only [inK]; omega) rfl rfl rfl (run_l tabOk ?_); conv => whnf) | (refine wl_cvB tabOk rfl rfl rfl rfl rfl rfl (run_l tabOk ?_); conv => whnf) | (refine wl_rem rfl rfl rfl rfl rfl rfl (by omega) (by omega) (fun r hr hr0 hr1 hr2 => run_l tabOk ?_); conv => whnf) | (refine wl_quo rfl rfl rfl rfl rfl rfl (by omega) (by omega) (by simp only [inK]; omega) (run_l tabOk ?_); conv => whnf) | (refine wl_mul rfl rfl rfl rfl rfl rfl (by omega) (by omega) (run_l tabOk ?_); conv => whnf) | (refine gs_dt (by first | assumption | omega) ?_; conv => whnf) | (refine gs_df (by first | assumption | omega) ?_; conv => whnf) | (refine gs_t (by assumption) ?_; conv => whnf) | (refine gs_f (by assumption) ?_; conv => whnf) | (refine gs_d (fun hg => ?_) (fun hg => ?_) <;> conv => whnf) | (refine gs_n (fun hg => ?_) (fun hg => ?_) <;> conv => whnf) | (refine gs_nb (fun hg => ?_) (fun hg => ?_) <;> conv => whnf) | (refine gs_b (fun hg => ?_) (fun hg => ?_) <;> conv => whnf) | refine fin1 rfl rfl ?_))
    exact ⟨rfl, bup hB011 hBi⟩
end Go.Proofs.Ytomldckplkecbaa
