/- Cuts of rows; the walk of LeastLess. -/
import Derived.Test.YtkmnhkfgjadppaaE10
import Derived.Test.YtkmnhkfgjadppaaM12
import Derived.Test.YtkmnhkfgjadppaaL2303
namespace Go.Proofs.Ytkmnhkfgjadppaa
open Go.RowKit
set_option linter.unusedVariables false
set_option linter.unusedSimpArgs false
set_option maxRecDepth 100000
theorem Elems.app {α : Type} [Inhabited α] {sz : Nat} {d : Dec α} {w : World} {f1 f2 : List Value} {xs ys : List α} (h : Elems sz d w f1 xs) (h2 : Elems sz d w f2 ys) : Elems sz d w (f1 ++ f2) (xs ++ ys) := by
  refine ⟨by simp [h.1, h2.1, Nat.add_mul], fun i hi => ?_⟩
  rw [List.length_append] at hi
  rcases Nat.lt_or_ge i xs.length with hl | hl
  · have h1 : i * sz + sz ≤ f1.length := by rw [h.1, ← Nat.succ_mul]; exact Nat.mul_le_mul_right _ hl
    rw [List.drop_append_of_le_length (by omega), List.take_append_of_le_length (by rw [List.length_drop]; omega), getElem!_pos _ i (by simp; omega), List.getElem_append_left hl]
    have := h.2 i hl
    rwa [getElem!_pos xs i hl] at this
  · obtain ⟨j, rfl⟩ : ∃ j, i = xs.length + j := ⟨i - xs.length, by omega⟩
    rw [Nat.add_mul, ← h.1, ← List.drop_drop, List.drop_left, getElem!_pos _ _ (by simp; omega), List.getElem_append_right (by omega)]
    have := h2.2 j (by omega)
    rw [getElem!_pos ys j (by omega)] at this
    simpa using this
theorem grow_two {α : Type} [Inhabited α] {sz : Nat} {d : Dec α} {e : TypeId} {base : Nat} {w w1 w2 : World} {v : Value} {xs ys : List α} {n1 n2 : List Value} (h1 : Elems sz d w n1 xs) (h2 : Elems sz d w1 n2 ys) (hd : ∀ (w w' : World) cs x, d w cs x → d w' cs x) (hown : w2.ownsRow base e sz v (0 + xs.length + ys.length) ([] ++ n1 ++ n2)) : GRow sz d e base w2 v (xs ++ ys) [] := by
  rw [Nat.zero_add, List.nil_append, ← List.length_append] at hown
  exact ⟨⟨_, hown, fun w' _ => Elems.app ⟨h1.1, fun i hi => hd _ _ _ _ (h1.2 i hi)⟩ ⟨h2.1, fun i hi => hd _ _ _ _ (h2.2 i hi)⟩⟩, by simp, by simp⟩
def sumTo (ps : List (List Int)) (v : Nat) : Nat := (ps.take v).foldl (fun a p => a + p.length) 0
theorem sumTo_next {ps : List (List Int)} {v : Nat} (hv : v < ps.length) : sumTo ps (v + 1) = sumTo ps v + ps[v]!.length := by rw [sumTo, fold_take _ _ hv]; rfl
theorem rows_set {base g : Nat} {w w1 w2 : World} {vs : List Value} {M : List (List Int)} {bl : List Nat} (h : GMat base g w vs M bl) (hB : Below w.heap.size w w1) {i : Nat} (hi : i < M.length) {v' : Value} {ys : List Int} {b' : Nat} (hv : GInts b' w1 v' ys) (hb' : w.heap.size ≤ b')
    (hp : Put w1 w2 g (vs.set i v') 32) (hm : M.length ≤ 9223372036854775807) : RRows w2 (some ⟨g, 0, none⟩) (M.set i ys) := by
  have hgl := blk_lt h.blk
  have hv2 := hv.other hp.grown (by simp) (fun k hk e => by have := (hv.olt k hk).1; omega)
  refine row_of_blk hp.blk ⟨by rw [List.length_set, h.len]; simp, fun j hj => ?_⟩ (by simpa using hm)
  have hj' : j < M.length := by simpa using hj
  have hjv : j < (vs.set i v').length := by simp [h.len]; omega
  have e : ((vs.set i v').drop (j * 1)).take 1 = [(vs.set i v')[j]!] := by
    rw [Nat.mul_one, List.drop_eq_getElem_cons hjv, getElem!_pos _ j hjv]
    rfl
  rw [e, get_set _ _ _ _ (by rw [h.len]; exact hj'), get_set _ _ _ _ hj']
  by_cases e2 : i = j
  · rw [if_pos e2, if_pos e2]
    obtain ⟨A, c, q1, q2, q3⟩ := hv2.row
    rw [q1]
    exact ⟨A, c, rfl, q2, q3⟩
  · rw [if_neg e2, if_neg e2]
    have hr := ((h.row j hj').1.below hB).other hp.grown (by simp) (fun k hk e => h.gb (e ▸ (h.row j hj').2 k hk))
    obtain ⟨A, c, q1, q2, q3⟩ := hr.row
    rw [q1]
    exact ⟨A, c, rfl, q2, q3⟩
set_option maxHeartbeats 8000000 in
theorem lawLeastLess (d : Draft) (A : Option Addr) (c : Nat) (at_ : Int) (w : World) (h : RActs w A d.acts) (hk : (0 ≤ d.vars ∧ d.vars ≤ 255) ∧ 0 ≤ d.cells ∧ d.cells ≤ 255) (hat : 0 ≤ at_ ∧ at_ ≤ 65535) :
    Calls Try.prog 6 #[.agg #[.int .u8 d.vars, .int .u8 d.cells, .slice A d.acts.length c], .int .u16 at_] w fun e w' => e = .returned (.bool true) ∧ Below w.heap.size w w' := by
  refine enterR (args := [.agg #[.int .u8 d.vars, .int .u8 d.cells, .slice A d.acts.length c], .int .u16 at_]) tabOk Try.func6 rfl Try.ntmps6 rfl ?_; conv => whnf
  refine wl_box rfl rfl rfl rfl rfl rfl ?_
  intro g1 w1 hn1
  refine run_l tabOk ?_
  conv => whnf
  refine wl_C fn9 (awake23 _) rfl rfl rfl rfl rfl rfl rfl ?_
  rintro _ w2 ⟨rfl, hB2⟩
  have hb := blk_up hB2 hn1.blk
  have hB := bup hn1.below hB2
  refine ⟨_, rfl, run_l tabOk ?_⟩
  conv => whnf
  (repeat' (first | (refine wl_Lg tabOk hb rfl rfl rfl rfl rfl rfl rfl (run_l tabOk ?_); conv => whnf) | (refine wl_add rfl rfl rfl rfl rfl rfl (by omega) (by omega) (run_l tabOk ?_); conv => whnf) | (refine wl_sub rfl rfl rfl rfl rfl rfl (by omega) (by omega) (run_l tabOk ?_); conv => whnf) | (refine wl_cvA tabOk rfl rfl rfl (by simp only [inK]; omega) rfl rfl rfl (run_l tabOk ?_); conv => whnf) | (refine wl_cvB tabOk rfl rfl rfl rfl rfl rfl (run_l tabOk ?_); conv => whnf) | (refine wl_rem rfl rfl rfl rfl rfl rfl (by omega) (by omega) (fun r hr hr0 hr1 hr2 => run_l tabOk ?_); conv => whnf) | (refine wl_quo rfl rfl rfl rfl rfl rfl (by omega) (by omega) (by simp only [inK]; omega) (run_l tabOk ?_); conv => whnf) | (refine wl_mul rfl rfl rfl rfl rfl rfl (by omega) (by omega) (run_l tabOk ?_); conv => whnf) | (refine gs_dt (by first | assumption | omega) ?_; conv => whnf) | (refine gs_df (by first | assumption | omega) ?_; conv => whnf) | (refine gs_t (by assumption) ?_; conv => whnf) | (refine gs_f (by assumption) ?_; conv => whnf) | (refine gs_d (fun hg => ?_) (fun hg => ?_) <;> conv => whnf) | (refine gs_n (fun hg => ?_) (fun hg => ?_) <;> conv => whnf) | (refine gs_nb (fun hg => ?_) (fun hg => ?_) <;> conv => whnf) | (refine gs_b (fun hg => ?_) (fun hg => ?_) <;> conv => whnf) | refine fin1 rfl rfl ?_))
  · refine wl_C fn9 (awake23 _) rfl rfl rfl rfl rfl rfl rfl ?_
    rintro _ w3 ⟨rfl, hB3⟩
    refine ⟨_, rfl, run_l tabOk ?_⟩
    conv => whnf
    (repeat' (first | (refine wl_add rfl rfl rfl rfl rfl rfl (by omega) (by omega) (run_l tabOk ?_); conv => whnf) | (refine wl_sub rfl rfl rfl rfl rfl rfl (by omega) (by omega) (run_l tabOk ?_); conv => whnf) | (refine wl_cvA tabOk rfl rfl rfl (by simp only [inK]; omega) rfl rfl rfl (run_l tabOk ?_); conv => whnf) | (refine wl_cvB tabOk rfl rfl rfl rfl rfl rfl (run_l tabOk ?_); conv => whnf) | (refine wl_rem rfl rfl rfl rfl rfl rfl (by omega) (by omega) (fun r hr hr0 hr1 hr2 => run_l tabOk ?_); conv => whnf) | (refine wl_quo rfl rfl rfl rfl rfl rfl (by omega) (by omega) (by simp only [inK]; omega) (run_l tabOk ?_); conv => whnf) | (refine wl_mul rfl rfl rfl rfl rfl rfl (by omega) (by omega) (run_l tabOk ?_); conv => whnf) | (refine gs_dt (by first | assumption | omega) ?_; conv => whnf) | (refine gs_df (by first | assumption | omega) ?_; conv => whnf) | (refine gs_t (by assumption) ?_; conv => whnf) | (refine gs_f (by assumption) ?_; conv => whnf) | (refine gs_d (fun hg => ?_) (fun hg => ?_) <;> conv => whnf) | (refine gs_n (fun hg => ?_) (fun hg => ?_) <;> conv => whnf) | (refine gs_nb (fun hg => ?_) (fun hg => ?_) <;> conv => whnf) | (refine gs_b (fun hg => ?_) (fun hg => ?_) <;> conv => whnf) | refine fin1 rfl rfl ?_))
    exact ⟨rfl, bup hB hB3⟩
  (repeat' (first | (refine wl_Lag tabOk hb rfl rfl rfl rfl rfl rfl (run_l tabOk ?_); conv => whnf) | (refine wl_add rfl rfl rfl rfl rfl rfl (by omega) (by omega) (run_l tabOk ?_); conv => whnf) | (refine wl_sub rfl rfl rfl rfl rfl rfl (by omega) (by omega) (run_l tabOk ?_); conv => whnf) | (refine wl_cvA tabOk rfl rfl rfl (by simp only [inK]; omega) rfl rfl rfl (run_l tabOk ?_); conv => whnf) | (refine wl_cvB tabOk rfl rfl rfl rfl rfl rfl (run_l tabOk ?_); conv => whnf) | (refine wl_rem rfl rfl rfl rfl rfl rfl (by omega) (by omega) (fun r hr hr0 hr1 hr2 => run_l tabOk ?_); conv => whnf) | (refine wl_quo rfl rfl rfl rfl rfl rfl (by omega) (by omega) (by simp only [inK]; omega) (run_l tabOk ?_); conv => whnf) | (refine wl_mul rfl rfl rfl rfl rfl rfl (by omega) (by omega) (run_l tabOk ?_); conv => whnf) | (refine gs_dt (by first | assumption | omega) ?_; conv => whnf) | (refine gs_df (by first | assumption | omega) ?_; conv => whnf) | (refine gs_t (by assumption) ?_; conv => whnf) | (refine gs_f (by assumption) ?_; conv => whnf) | (refine gs_d (fun hg => ?_) (fun hg => ?_) <;> conv => whnf) | (refine gs_n (fun hg => ?_) (fun hg => ?_) <;> conv => whnf) | (refine gs_nb (fun hg => ?_) (fun hg => ?_) <;> conv => whnf) | (refine gs_b (fun hg => ?_) (fun hg => ?_) <;> conv => whnf) | refine fin1 rfl rfl ?_))
  refine wl_C fn10 (refMake d A c w2 (h.up stays_Act hB) hk.1 hk.2) rfl rfl rfl rfl rfl rfl rfl ?_
  rintro _ w3 ⟨s, va, vb', bs, cs, rfl, hB3, hM⟩
  have hright := hM.right
  have hvars := hM.vars
  have hncells := hM.ncells
  obtain ⟨A1, c1, rfl, _, hq1⟩ := hM.cells.row
  obtain ⟨A2, c2, rfl, _, hq2⟩ := hM.cons.row
  have hB03 := bup hB hB3
  clear hM hb hB2 hn1
  obtain ⟨vars, xs, ys⟩ := s
  simp only at hright hvars hq1 hq2 hncells
  obtain ⟨n, rfl⟩ : ∃ n : Nat, vars = n := ⟨vars.toNat, by omega⟩
  refine ⟨_, rfl, run_l tabOk ?_⟩
  conv => whnf
  refine wl_alloc tabOk rfl rfl rfl rfl rfl rfl ?_
  intro g3 w4 hn4
  refine wl_Sa tabOk hn4.blk rfl rfl rfl rfl rfl (by simp [Value.oneCell']) rfl rfl ?_
  intro w5 hp5
  have hB5 : Below w3.heap.size w3 w5 := hp5.below hn4.below (by have := hn4.at_; omega) (by have := hn4.size; omega)
  have hb3 : w5.heap[g3]? = some (.cells #[.int .i64 n, .slice A1 xs.length c1, .slice A2 ys.length c2] 30 (0, 0)) := hp5.blk
  have hq1 := hq1.up stays_Cell hB5
  have hq2 := hq2.up stays_Con hB5
  have hB05 := bup hB03 hB5
  clear hp5 hn4 hB03 hB5 hB3
  refine run_l tabOk ?_
  conv => whnf
  (repeat' (first | (refine wl_Lag tabOk hb3 rfl rfl rfl rfl rfl rfl (run_l tabOk ?_); conv => whnf) | (refine wl_add rfl rfl rfl rfl rfl rfl (by omega) (by omega) (run_l tabOk ?_); conv => whnf) | (refine wl_sub rfl rfl rfl rfl rfl rfl (by omega) (by omega) (run_l tabOk ?_); conv => whnf) | (refine wl_cvA tabOk rfl rfl rfl (by simp only [inK]; omega) rfl rfl rfl (run_l tabOk ?_); conv => whnf) | (refine wl_cvB tabOk rfl rfl rfl rfl rfl rfl (run_l tabOk ?_); conv => whnf) | (refine wl_rem rfl rfl rfl rfl rfl rfl (by omega) (by omega) (fun r hr hr0 hr1 hr2 => run_l tabOk ?_); conv => whnf) | (refine wl_quo rfl rfl rfl rfl rfl rfl (by omega) (by omega) (by simp only [inK]; omega) (run_l tabOk ?_); conv => whnf) | (refine wl_mul rfl rfl rfl rfl rfl rfl (by omega) (by omega) (run_l tabOk ?_); conv => whnf) | (refine gs_dt (by first | assumption | omega) ?_; conv => whnf) | (refine gs_df (by first | assumption | omega) ?_; conv => whnf) | (refine gs_t (by assumption) ?_; conv => whnf) | (refine gs_f (by assumption) ?_; conv => whnf) | (refine gs_d (fun hg => ?_) (fun hg => ?_) <;> conv => whnf) | (refine gs_n (fun hg => ?_) (fun hg => ?_) <;> conv => whnf) | (refine gs_nb (fun hg => ?_) (fun hg => ?_) <;> conv => whnf) | (refine gs_b (fun hg => ?_) (fun hg => ?_) <;> conv => whnf) | refine fin1 rfl rfl ?_))
  have hq15 := hq1
  have hq25 := hq2
  have hb35 := hb3
  refine wl_C fn15 (leastPointsG n xs ys A1 A2 c1 c2 w5 hq1 hq2 hright) rfl rfl rfl rfl rfl rfl rfl ?_
  rintro _ w6 ⟨M, go, vs, bl, rfl, hIL, hG, hB6⟩
  have hb3 := blk_up hB6 hb3
  have hq1 := hq1.up stays_Cell hB6
  have hq2 := hq2.up stays_Con hB6
  have hBw := bup hB05 hB6
  have hgo : w5.heap.size ≤ go := hG.hg
  have hsh : Shape n xs.length M := by simpa using hIL.sh
  have hpl : (ptsOf M).length = n := by simp [ptsOf, hsh.rows]
  have hrows := hG.rows (by rw [hpl]; omega)
  have hpt : ∀ v, v < n → (ptsOf M)[v]! = rowPts M[v]! := fun v hv => by
    rw [getElem!_pos _ v (by rw [hpl]; exact hv), getElem!_pos M v (by rw [hsh.rows]; exact hv)]
    simp [ptsOf]
  have hp7 : ∀ v, v < n → (ptsOf M)[v]!.length ≤ 7 := fun v hv => by
    rw [hpt v hv]
    have := rowTo_len M[v]! (M[v]!).length
    rw [hsh.cols v hv] at this
    have e : rowPts M[v]! = rowTo M[v]! xs.length := by rw [rowPts, hsh.cols v hv]
    rw [e]
    omega
  refine ⟨_, rfl, run_l tabOk ?_⟩
  conv => whnf
  refine lp_loop tabOk (X := Nat) (fun v => [(1, .int .u16 at_), (5, .pointer (some ⟨g3, 0, none⟩)), (6, .slice (some ⟨go, 0, none⟩) n n), (7, .int .i64 (sumTo (ptsOf M) v : Nat)), (8, .int .i64 v)])
    (fun v wr => v ≤ n ∧ sumTo (ptsOf M) v ≤ v * 7 ∧ w6 = wr) (fun v => n - v) 0 ⟨rfl, rfl, rfl, rfl, rfl, trivial⟩ ⟨by omega, by simp [sumTo], rfl⟩ ?_
  rintro v G _ ⟨hv, hsm, rfl⟩
  conv => whnf
  by_cases hvl : v < n
  · obtain ⟨p, ad, P1, pc, hpp, e1, e0, _, _⟩ := rowsE hrows v (by rw [hpl]; exact hvl)
    cases e1
    have hl7 := hp7 v hvl
    have hsn := sumTo_next (ps := ptsOf M) (v := v) (by rw [hpl]; exact hvl)
    rw [hpp.out] at hl7 hsn
    (repeat' (first | (refine wl_L tabOk rfl rfl rfl rfl rfl rfl e0 (run_l tabOk ?_); conv => whnf) | (refine wl_Xn tabOk 32 1 rfl rfl rfl rfl rfl rfl rfl (by omega) (run_l tabOk ?_); conv => whnf) | (refine wl_add rfl rfl rfl rfl rfl rfl (by omega) (by omega) (run_l tabOk ?_); conv => whnf) | (refine wl_sub rfl rfl rfl rfl rfl rfl (by omega) (by omega) (run_l tabOk ?_); conv => whnf) | (refine wl_cvA tabOk rfl rfl rfl (by simp only [inK]; omega) rfl rfl rfl (run_l tabOk ?_); conv => whnf) | (refine wl_cvB tabOk rfl rfl rfl rfl rfl rfl (run_l tabOk ?_); conv => whnf) | (refine wl_rem rfl rfl rfl rfl rfl rfl (by omega) (by omega) (fun r hr hr0 hr1 hr2 => run_l tabOk ?_); conv => whnf) | (refine wl_quo rfl rfl rfl rfl rfl rfl (by omega) (by omega) (by simp only [inK]; omega) (run_l tabOk ?_); conv => whnf) | (refine wl_mul rfl rfl rfl rfl rfl rfl (by omega) (by omega) (run_l tabOk ?_); conv => whnf) | (refine gs_dt (by first | assumption | omega) ?_; conv => whnf) | (refine gs_df (by first | assumption | omega) ?_; conv => whnf) | (refine gs_t (by assumption) ?_; conv => whnf) | (refine gs_f (by assumption) ?_; conv => whnf) | (refine gs_d (fun hg => ?_) (fun hg => ?_) <;> conv => whnf) | (refine gs_n (fun hg => ?_) (fun hg => ?_) <;> conv => whnf) | (refine gs_nb (fun hg => ?_) (fun hg => ?_) <;> conv => whnf) | (refine gs_b (fun hg => ?_) (fun hg => ?_) <;> conv => whnf) | refine fin1 rfl rfl ?_))
    exact ⟨v + 1, ⟨rfl, rfl, rfl, by rw [hsn]; rfl, rfl, trivial⟩, ⟨by omega, by omega, rfl⟩, by omega⟩
  · have hvn : v = n := by omega
    subst hvn
    obtain ⟨tot, htot⟩ : ∃ tot, tot = sumTo (ptsOf M) v := ⟨_, rfl⟩
    rw [← htot] at hsm
    (repeat' (first | (refine wl_add rfl rfl rfl rfl rfl rfl (by omega) (by omega) (run_l tabOk ?_); conv => whnf) | (refine wl_sub rfl rfl rfl rfl rfl rfl (by omega) (by omega) (run_l tabOk ?_); conv => whnf) | (refine wl_cvA tabOk rfl rfl rfl (by simp only [inK]; omega) rfl rfl rfl (run_l tabOk ?_); conv => whnf) | (refine wl_cvB tabOk rfl rfl rfl rfl rfl rfl (run_l tabOk ?_); conv => whnf) | (refine wl_rem rfl rfl rfl rfl rfl rfl (by omega) (by omega) (fun r hr hr0 hr1 hr2 => run_l tabOk ?_); conv => whnf) | (refine wl_quo rfl rfl rfl rfl rfl rfl (by omega) (by omega) (by simp only [inK]; omega) (run_l tabOk ?_); conv => whnf) | (refine wl_mul rfl rfl rfl rfl rfl rfl (by omega) (by omega) (run_l tabOk ?_); conv => whnf) | (refine gs_dt (by first | assumption | omega) ?_; conv => whnf) | (refine gs_df (by first | assumption | omega) ?_; conv => whnf) | (refine gs_t (by assumption) ?_; conv => whnf) | (refine gs_f (by assumption) ?_; conv => whnf) | (refine gs_d (fun hg => ?_) (fun hg => ?_) <;> conv => whnf) | (refine gs_n (fun hg => ?_) (fun hg => ?_) <;> conv => whnf) | (refine gs_nb (fun hg => ?_) (fun hg => ?_) <;> conv => whnf) | (refine gs_b (fun hg => ?_) (fun hg => ?_) <;> conv => whnf) | refine fin1 rfl rfl ?_))
    · -- nothing points to anything
      (repeat' (first | (refine wl_Lag tabOk hb3 rfl rfl rfl rfl rfl rfl (run_l tabOk ?_); conv => whnf) | (refine wl_add rfl rfl rfl rfl rfl rfl (by omega) (by omega) (run_l tabOk ?_); conv => whnf) | (refine wl_sub rfl rfl rfl rfl rfl rfl (by omega) (by omega) (run_l tabOk ?_); conv => whnf) | (refine wl_cvA tabOk rfl rfl rfl (by simp only [inK]; omega) rfl rfl rfl (run_l tabOk ?_); conv => whnf) | (refine wl_cvB tabOk rfl rfl rfl rfl rfl rfl (run_l tabOk ?_); conv => whnf) | (refine wl_rem rfl rfl rfl rfl rfl rfl (by omega) (by omega) (fun r hr hr0 hr1 hr2 => run_l tabOk ?_); conv => whnf) | (refine wl_quo rfl rfl rfl rfl rfl rfl (by omega) (by omega) (by simp only [inK]; omega) (run_l tabOk ?_); conv => whnf) | (refine wl_mul rfl rfl rfl rfl rfl rfl (by omega) (by omega) (run_l tabOk ?_); conv => whnf) | (refine gs_dt (by first | assumption | omega) ?_; conv => whnf) | (refine gs_df (by first | assumption | omega) ?_; conv => whnf) | (refine gs_t (by assumption) ?_; conv => whnf) | (refine gs_f (by assumption) ?_; conv => whnf) | (refine gs_d (fun hg => ?_) (fun hg => ?_) <;> conv => whnf) | (refine gs_n (fun hg => ?_) (fun hg => ?_) <;> conv => whnf) | (refine gs_nb (fun hg => ?_) (fun hg => ?_) <;> conv => whnf) | (refine gs_b (fun hg => ?_) (fun hg => ?_) <;> conv => whnf) | refine fin1 rfl rfl ?_))
      have hcl := leastClosed ⟨v, xs, ys⟩ (ptsOf M) A1 A2 (some ⟨go, 0, none⟩) c1 c2 v w6 hq1 hq2 hrows
      rw [hpl] at hcl
      refine wl_C fn12 hcl rfl rfl rfl rfl rfl rfl rfl ?_
      rintro _ w7 ⟨b, rfl, hbk, hB7⟩
      have hbt : b = true := hbk.2 ⟨hright, by simp [hpl], by simpa using okPts_pts hsh, by simp only [Int.toNat_natCast]; rw [mat_pts hsh]; exact hIL.closed⟩
      subst hbt
      refine ⟨_, rfl, run_l tabOk ?_⟩
      conv => whnf
      (repeat' (first | (refine wl_add rfl rfl rfl rfl rfl rfl (by omega) (by omega) (run_l tabOk ?_); conv => whnf) | (refine wl_sub rfl rfl rfl rfl rfl rfl (by omega) (by omega) (run_l tabOk ?_); conv => whnf) | (refine wl_cvA tabOk rfl rfl rfl (by simp only [inK]; omega) rfl rfl rfl (run_l tabOk ?_); conv => whnf) | (refine wl_cvB tabOk rfl rfl rfl rfl rfl rfl (run_l tabOk ?_); conv => whnf) | (refine wl_rem rfl rfl rfl rfl rfl rfl (by omega) (by omega) (fun r hr hr0 hr1 hr2 => run_l tabOk ?_); conv => whnf) | (refine wl_quo rfl rfl rfl rfl rfl rfl (by omega) (by omega) (by simp only [inK]; omega) (run_l tabOk ?_); conv => whnf) | (refine wl_mul rfl rfl rfl rfl rfl rfl (by omega) (by omega) (run_l tabOk ?_); conv => whnf) | (refine gs_dt (by first | assumption | omega) ?_; conv => whnf) | (refine gs_df (by first | assumption | omega) ?_; conv => whnf) | (refine gs_t (by assumption) ?_; conv => whnf) | (refine gs_f (by assumption) ?_; conv => whnf) | (refine gs_d (fun hg => ?_) (fun hg => ?_) <;> conv => whnf) | (refine gs_n (fun hg => ?_) (fun hg => ?_) <;> conv => whnf) | (refine gs_nb (fun hg => ?_) (fun hg => ?_) <;> conv => whnf) | (refine gs_b (fun hg => ?_) (fun hg => ?_) <;> conv => whnf) | refine fin1 rfl rfl ?_))
      exact ⟨rfl, bup hBw hB7⟩
    · obtain ⟨k0, rfl⟩ : ∃ k0 : Nat, r = k0 := ⟨r.toNat, by omega⟩
      have hlt : k0 < tot := by omega
      refine lp_loop tabOk (X := Nat × Nat) (fun y => [(5, .pointer (some ⟨g3, 0, none⟩)), (6, .slice (some ⟨go, 0, none⟩) v v), (9, .int .i64 y.2), (10, .int .i64 y.1)])
        (fun y wr => y.1 ≤ v ∧ y.2 + sumTo (ptsOf M) y.1 = k0 ∧ w6 = wr) (fun y => v - y.1) (0, k0) ⟨rfl, rfl, rfl, rfl, trivial⟩ ⟨by omega, by simp [sumTo], rfl⟩ ?_
      rintro ⟨u, kk⟩ G _ ⟨hu, hks, rfl⟩
      simp only at hu hks
      conv => whnf
      by_cases hul : u < v
      · obtain ⟨p, ad, P1, pc, hpp, e1, e0, hpc, hpr⟩ := rowsE hrows u (by rw [hpl]; exact hul)
        cases e1
        have hl7 := hp7 u hul
        have hsn := sumTo_next (ps := ptsOf M) (v := u) (by rw [hpl]; exact hul)
        rw [hpp.out] at hl7 hsn
        (repeat' (first | (refine wl_L tabOk rfl rfl rfl rfl rfl rfl e0 (run_l tabOk ?_); conv => whnf) | (refine wl_Xn tabOk 32 1 rfl rfl rfl rfl rfl rfl rfl (by omega) (run_l tabOk ?_); conv => whnf) | (refine wl_add rfl rfl rfl rfl rfl rfl (by omega) (by omega) (run_l tabOk ?_); conv => whnf) | (refine wl_sub rfl rfl rfl rfl rfl rfl (by omega) (by omega) (run_l tabOk ?_); conv => whnf) | (refine wl_cvA tabOk rfl rfl rfl (by simp only [inK]; omega) rfl rfl rfl (run_l tabOk ?_); conv => whnf) | (refine wl_cvB tabOk rfl rfl rfl rfl rfl rfl (run_l tabOk ?_); conv => whnf) | (refine wl_rem rfl rfl rfl rfl rfl rfl (by omega) (by omega) (fun r hr hr0 hr1 hr2 => run_l tabOk ?_); conv => whnf) | (refine wl_quo rfl rfl rfl rfl rfl rfl (by omega) (by omega) (by simp only [inK]; omega) (run_l tabOk ?_); conv => whnf) | (refine wl_mul rfl rfl rfl rfl rfl rfl (by omega) (by omega) (run_l tabOk ?_); conv => whnf) | (refine gs_dt (by first | assumption | omega) ?_; conv => whnf) | (refine gs_df (by first | assumption | omega) ?_; conv => whnf) | (refine gs_t (by assumption) ?_; conv => whnf) | (refine gs_f (by assumption) ?_; conv => whnf) | (refine gs_d (fun hg => ?_) (fun hg => ?_) <;> conv => whnf) | (refine gs_n (fun hg => ?_) (fun hg => ?_) <;> conv => whnf) | (refine gs_nb (fun hg => ?_) (fun hg => ?_) <;> conv => whnf) | (refine gs_b (fun hg => ?_) (fun hg => ?_) <;> conv => whnf) | refine fin1 rfl rfl ?_))
        · exact ⟨(u + 1, kk - p.length), ⟨rfl, rfl, congrArg (Value.int .i64) (show ((kk : Int) - (p.length : Int)) = ((kk - p.length : Nat) : Int) by omega), rfl, trivial⟩, ⟨by omega, by simp only; omega, rfl⟩, by simp only; omega⟩
        · have hkp : kk < p.length := by omega
          have er := hpr.out
          refine wc_qx [0,1,2,3,4,5,6,7,9,10,11,12,13,14,15] 2 17 (stable_Bw w6) tabOk mixed (by kernel_rfl) (Below.refl _ _) ?_
          conv => whnf
          have kc : ∀ w', Below w6.heap.size w6 w' → w'.cell? ((⟨go, 0, none⟩ : Addr).add (u * 1)) = some (.slice P1 p.length pc) := fun w' h => cell_up h e0
          (repeat' (first | (refine wq_LgC tabOk  rfl rfl rfl rfl rfl rfl rfl (run_q tabOk ?_); conv => whnf) | (refine wq_LC tabOk kc rfl rfl rfl rfl rfl rfl (run_q tabOk ?_); conv => whnf) | (refine wq_Xn tabOk 32 1 rfl rfl rfl rfl rfl rfl rfl (by omega) (run_q tabOk ?_); conv => whnf) | (refine wq_slH tabOk 3 1 rfl rfl rfl rfl rfl rfl rfl (by omega) (by omega) (run_q tabOk ?_); (conv => whnf)) | (refine wq_slL tabOk 3 1 rfl rfl rfl rfl rfl rfl rfl (by omega) (by omega) (run_q tabOk ?_); (conv => whnf)) | (refine wq_add rfl rfl rfl rfl rfl rfl (by omega) (by omega) (run_q tabOk ?_); conv => whnf) | (refine wq_sub rfl rfl rfl rfl rfl rfl (by omega) (by omega) (run_q tabOk ?_); conv => whnf) | (refine wq_cvA tabOk rfl rfl rfl (by simp only [inK]; omega) rfl rfl rfl (run_q tabOk ?_); conv => whnf) | (refine wq_cvB tabOk rfl rfl rfl rfl rfl rfl (run_q tabOk ?_); conv => whnf) | (refine wq_rem rfl rfl rfl rfl rfl rfl (by omega) (by omega) (fun r hr hr0 hr1 hr2 => run_q tabOk ?_); conv => whnf) | (refine wq_quo rfl rfl rfl rfl rfl rfl (by omega) (by omega) (by simp only [inK]; omega) (run_q tabOk ?_); conv => whnf) | (refine wq_mul rfl rfl rfl rfl rfl rfl (by omega) (by omega) (run_q tabOk ?_); conv => whnf) | (refine gs_dt (by first | assumption | omega) ?_; conv => whnf) | (refine gs_df (by first | assumption | omega) ?_; conv => whnf) | (refine gs_t (by assumption) ?_; conv => whnf) | (refine gs_f (by assumption) ?_; conv => whnf) | (refine gs_d (fun hg => ?_) (fun hg => ?_) <;> conv => whnf) | (refine gs_n (fun hg => ?_) (fun hg => ?_) <;> conv => whnf) | (refine gs_nb (fun hg => ?_) (fun hg => ?_) <;> conv => whnf) | (refine gs_b (fun hg => ?_) (fun hg => ?_) <;> conv => whnf)))
          intro w7 hC7 _
          (conv => whnf)
          refine And.intro ?_ trivial
          (conv => whnf)
          have hkt : (p.take kk).length = kk := by simp; omega
          have hrp : RowR 1 (dI .i64) w6 P1 p := er
          refine wb_a (wa_apr tabOk 3 1 8 (own_nil _ w6.heap.size _ _) ((hrp.take kk).up (stays_I _) hC7) (one_I _) rfl rfl rfl rfl rfl (by rw [hkt]; rfl) rfl rfl rfl rfl (by rw [hkt]; omega) (by rw [hkt]; omega) hC7.size ?_)
          intro Ax cx w8 n1 hel1 hown1 hgr1 _
          have hC8 : Below w6.heap.size w6 w8 := hC7.grown hgr1 hC7.size (by simp [Value.ownBlock])
          refine ⟨hC8, fun w9 hB9 hC9 => ?_⟩
          (conv => whnf)
          refine And.intro ?_ trivial
          (conv => whnf)
          have hdl : (p.drop (kk + 1)).length = p.length - (kk + 1) := by simp
          have hown2 := hown1.kept (grown_of hB9) (Classical.em _)
          refine wb_a (wa_apr tabOk 3 1 8 hown2 ((hrp.drop (kk + 1) pc hpc).up (stays_I _) hC9) (one_I _) rfl rfl rfl rfl rfl (by rw [hdl]; rfl) rfl rfl rfl rfl (by rw [hkt, hdl]; omega) (by rw [hkt, hdl]; omega) hC9.size ?_)
          intro Ay cy wa n2 hel2 hown3 hgr2 _
          have hga := grow_two hel1 hel2 (fun _ _ _ _ h => h) hown3
          have hgo1 : (Value.slice Ax (0 + (p.take kk).length) cx).ownBlock ≠ some go := fun e => by have := (hown1.lt _ e).1; have := blk_lt hG.blk; omega
          have hCa : Below w6.heap.size w6 wa := hC9.grown hgr2 hC9.size (fun k hk => (hown1.lt _ hk).1)
          refine ⟨hCa, fun wb hBb hCb => ?_⟩
          have hgb := hga.below hBb
          (conv => whnf)
          (repeat' (first | (refine wl_Xn tabOk 32 1 rfl rfl rfl rfl rfl rfl rfl (by omega) (run_l tabOk ?_); conv => whnf) | (refine wl_add rfl rfl rfl rfl rfl rfl (by omega) (by omega) (run_l tabOk ?_); conv => whnf) | (refine wl_sub rfl rfl rfl rfl rfl rfl (by omega) (by omega) (run_l tabOk ?_); conv => whnf) | (refine wl_cvA tabOk rfl rfl rfl (by simp only [inK]; omega) rfl rfl rfl (run_l tabOk ?_); conv => whnf) | (refine wl_cvB tabOk rfl rfl rfl rfl rfl rfl (run_l tabOk ?_); conv => whnf) | (refine wl_rem rfl rfl rfl rfl rfl rfl (by omega) (by omega) (fun r hr hr0 hr1 hr2 => run_l tabOk ?_); conv => whnf) | (refine wl_quo rfl rfl rfl rfl rfl rfl (by omega) (by omega) (by simp only [inK]; omega) (run_l tabOk ?_); conv => whnf) | (refine wl_mul rfl rfl rfl rfl rfl rfl (by omega) (by omega) (run_l tabOk ?_); conv => whnf) | (refine gs_dt (by first | assumption | omega) ?_; conv => whnf) | (refine gs_df (by first | assumption | omega) ?_; conv => whnf) | (refine gs_t (by assumption) ?_; conv => whnf) | (refine gs_f (by assumption) ?_; conv => whnf) | (refine gs_d (fun hg => ?_) (fun hg => ?_) <;> conv => whnf) | (refine gs_n (fun hg => ?_) (fun hg => ?_) <;> conv => whnf) | (refine gs_nb (fun hg => ?_) (fun hg => ?_) <;> conv => whnf) | (refine gs_b (fun hg => ?_) (fun hg => ?_) <;> conv => whnf) | refine fin1 rfl rfl ?_))
          refine wl_Se (j := u * 1) tabOk (blk_up hCb hG.blk) rfl rfl rfl rfl rfl rfl (by rw [hG.len]; omega) rfl rfl ?_
          intro wc hpp'
          rw [Nat.mul_one] at hpp'
          have hb5 : Below w5.heap.size w5 wb := bup hB6 hCb
          have hc5 : Below w5.heap.size w5 wc := hpp'.below hb5 hgo hb5.size
          have hrs := rows_set hG hCb (i := u) (by rw [hpl]; exact hul) hgb (Nat.le_refl _) hpp' (by rw [hpl]; omega)
          refine run_l tabOk ?_
          conv => whnf
          (repeat' (first | (refine wl_Lag tabOk (blk_up hc5 hb35) rfl rfl rfl rfl rfl rfl (run_l tabOk ?_); conv => whnf) | (refine wl_add rfl rfl rfl rfl rfl rfl (by omega) (by omega) (run_l tabOk ?_); conv => whnf) | (refine wl_sub rfl rfl rfl rfl rfl rfl (by omega) (by omega) (run_l tabOk ?_); conv => whnf) | (refine wl_cvA tabOk rfl rfl rfl (by simp only [inK]; omega) rfl rfl rfl (run_l tabOk ?_); conv => whnf) | (refine wl_cvB tabOk rfl rfl rfl rfl rfl rfl (run_l tabOk ?_); conv => whnf) | (refine wl_rem rfl rfl rfl rfl rfl rfl (by omega) (by omega) (fun r hr hr0 hr1 hr2 => run_l tabOk ?_); conv => whnf) | (refine wl_quo rfl rfl rfl rfl rfl rfl (by omega) (by omega) (by simp only [inK]; omega) (run_l tabOk ?_); conv => whnf) | (refine wl_mul rfl rfl rfl rfl rfl rfl (by omega) (by omega) (run_l tabOk ?_); conv => whnf) | (refine gs_dt (by first | assumption | omega) ?_; conv => whnf) | (refine gs_df (by first | assumption | omega) ?_; conv => whnf) | (refine gs_t (by assumption) ?_; conv => whnf) | (refine gs_f (by assumption) ?_; conv => whnf) | (refine gs_d (fun hg => ?_) (fun hg => ?_) <;> conv => whnf) | (refine gs_n (fun hg => ?_) (fun hg => ?_) <;> conv => whnf) | (refine gs_nb (fun hg => ?_) (fun hg => ?_) <;> conv => whnf) | (refine gs_b (fun hg => ?_) (fun hg => ?_) <;> conv => whnf) | refine fin1 rfl rfl ?_))
          have hcl := leastClosed ⟨v, xs, ys⟩ _ A1 A2 (some ⟨go, 0, none⟩) c1 c2 v wc (hq15.up stays_Cell hc5) (hq25.up stays_Con hc5) hrs
          rw [List.length_set, hpl] at hcl
          refine wl_C fn12 hcl rfl rfl rfl rfl rfl rfl rfl ?_
          rintro _ w7 ⟨b, rfl, hbk, hB7⟩
          have hbf : b = false := by
            cases b with
            | false => rfl
            | true =>
              exfalso
              have hK := hbk.1 rfl
              refine less_not (by simp) rfl hIL hul (k := kk) (by rw [← hpt u hul, hpp.out]; exact hkp) ?_
              rw [← hpt u hul, hpp.out]
              exact hK
          subst hbf
          refine ⟨_, rfl, run_l tabOk ?_⟩
          conv => whnf
          (repeat' (first | (refine wl_add rfl rfl rfl rfl rfl rfl (by omega) (by omega) (run_l tabOk ?_); conv => whnf) | (refine wl_sub rfl rfl rfl rfl rfl rfl (by omega) (by omega) (run_l tabOk ?_); conv => whnf) | (refine wl_cvA tabOk rfl rfl rfl (by simp only [inK]; omega) rfl rfl rfl (run_l tabOk ?_); conv => whnf) | (refine wl_cvB tabOk rfl rfl rfl rfl rfl rfl (run_l tabOk ?_); conv => whnf) | (refine wl_rem rfl rfl rfl rfl rfl rfl (by omega) (by omega) (fun r hr hr0 hr1 hr2 => run_l tabOk ?_); conv => whnf) | (refine wl_quo rfl rfl rfl rfl rfl rfl (by omega) (by omega) (by simp only [inK]; omega) (run_l tabOk ?_); conv => whnf) | (refine wl_mul rfl rfl rfl rfl rfl rfl (by omega) (by omega) (run_l tabOk ?_); conv => whnf) | (refine gs_dt (by first | assumption | omega) ?_; conv => whnf) | (refine gs_df (by first | assumption | omega) ?_; conv => whnf) | (refine gs_t (by assumption) ?_; conv => whnf) | (refine gs_f (by assumption) ?_; conv => whnf) | (refine gs_d (fun hg => ?_) (fun hg => ?_) <;> conv => whnf) | (refine gs_n (fun hg => ?_) (fun hg => ?_) <;> conv => whnf) | (refine gs_nb (fun hg => ?_) (fun hg => ?_) <;> conv => whnf) | (refine gs_b (fun hg => ?_) (fun hg => ?_) <;> conv => whnf) | refine fin1 rfl rfl ?_))
          exact ⟨rfl, bup hB05 (bup hc5 hB7)⟩
      · exfalso
        have : u = v := by omega
        subst this
        omega
end Go.Proofs.Ytkmnhkfgjadppaa
