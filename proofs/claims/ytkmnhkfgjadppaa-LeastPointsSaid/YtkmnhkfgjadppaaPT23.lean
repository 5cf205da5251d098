/- least.Points: the least map. -/
import Derived.Test.YtkmnhkfgjadppaaCL23
namespace Go.Proofs.Ytkmnhkfgjadppaa
open Go.RowKit
set_option linter.unusedVariables false
set_option linter.unusedSimpArgs false
set_option maxRecDepth 100000
def rowTo (r : List Bool) (k : Nat) : List Int := ((List.range k).filter fun o => r[o]!).map fun (o : Nat) => (o : Int)
def rowPts (r : List Bool) : List Int := rowTo r r.length
def ptsOf (M : Mat) : List (List Int) := M.map rowPts
theorem rowTo_next (r : List Bool) (k : Nat) : rowTo r (k + 1) = if r[k]! then rowTo r k ++ [(k : Int)] else rowTo r k := by
  unfold rowTo
  rw [List.range_succ, List.filter_append, List.map_append]
  cases h : r[k]! with
  | true => rw [List.filter_cons_of_pos (by exact h)]; rfl
  | false => rw [List.filter_cons_of_neg (by rw [h]; simp)]; simp
theorem rowTo_len (r : List Bool) (k : Nat) : (rowTo r k).length ≤ k := by
  unfold rowTo
  rw [List.length_map]
  exact Nat.le_trans (List.length_filter_le _ _) (by simp)
theorem okPts_nil (n nc : Nat) : okPts n nc [] := fun v _ h => by simp at h
theorem matOf_nil (n nc : Nat) : matOf n nc [] = zeroM n nc := by
  simp [matOf, zeroM, rowOf]
  induction n with
  | zero => rfl
  | succ n ih => rw [List.range_succ, List.map_append, ih, List.replicate_succ']; rfl
/-- The rows of M, as far as v. -/
def ptsTo (M : Mat) (n v : Nat) : List (List Int) := ((List.range v).map fun i => rowPts M[i]!) ++ List.replicate (n - v) []
theorem ptsTo_len {M : Mat} {n v : Nat} (h : v ≤ n) : (ptsTo M n v).length = n := by simp [ptsTo]; omega
theorem ptsTo_at {M : Mat} {n v : Nat} (h : v < n) : (ptsTo M n v)[v]! = [] := by
  rw [getElem!_pos _ v (by rw [ptsTo_len (by omega)]; exact h)]
  unfold ptsTo
  rw [List.getElem_append_right (by simp)]
  simp
theorem ptsTo_next {M : Mat} {n v : Nat} (h : v < n) : (ptsTo M n v).set v (rowPts M[v]!) = ptsTo M n (v + 1) := by
  unfold ptsTo
  rw [List.set_append_right _ _ (by simp), List.range_succ, List.map_append, show n - v = (n - (v + 1)) + 1 by omega, List.replicate_succ]
  simp
theorem ptsTo_all {M : Mat} {n c : Nat} (h : Shape n c M) : ptsTo M n n = ptsOf M := by
  unfold ptsTo ptsOf
  refine List.ext_getElem (by simp [h.rows]) fun i h1 h2 => ?_
  have hi : i < n := by simpa using h1
  rw [List.getElem_append_left (by simpa using hi)]
  simp only [List.getElem_map, List.getElem_range]
  rw [getElem!_pos M i (by rw [h.rows]; exact hi)]
theorem GMat.lower {base b' g : Nat} {w : World} {vs : List Value} {M : List (List Int)} {bl : List Nat} (h : GMat base g w vs M bl) (hb : b' ≤ base) : GMat b' g w vs M bl :=
  ⟨h.blk, h.len, Nat.le_trans hb h.hg, h.gb, fun b hm => ⟨Nat.le_trans hb (h.lt b hm).1, (h.lt b hm).2⟩, fun i hi => ⟨(h.row i hi).1.lower hb, (h.row i hi).2⟩, h.ne⟩
set_option maxHeartbeats 8000000 in
theorem leastPointsG (n : Nat) (xs : List Cell) (ys : List Con) (A1 A2 : Option Addr) (c1 c2 : Nat) (w : World) (h1 : RCells w A1 xs) (h2 : RCons w A2 ys) (hright : rightB ⟨n, xs, ys⟩ = true) :
    Calls Try.prog 15 #[.agg #[.int .i64 n, .slice A1 xs.length c1, .slice A2 ys.length c2]] w fun e w' => ∃ M go vs bl, e = .returned (.slice (some ⟨go, 0, none⟩) n n) ∧ IsLeast ⟨n, xs, ys⟩ M ∧ GMat w.heap.size go w' vs (ptsOf M) bl ∧ Below w.heap.size w w' := by
  have hm2 := h2.1
  obtain ⟨hn, hnc, hny, hgx, hgc⟩ := right_parts hright
  refine enterR (args := [.agg #[.int .i64 n, .slice A1 xs.length c1, .slice A2 ys.length c2]]) tabOk Try.func15 rfl Try.ntmps15 rfl ?_; conv => whnf
  refine wl_box rfl rfl rfl rfl rfl rfl ?_
  intro g1 w1 hn1
  have hb := hn1.blk
  have hB := hn1.below
  refine run_l tabOk ?_
  conv => whnf
  (repeat' (first | (refine wl_Lag tabOk hb rfl rfl rfl rfl rfl rfl (run_l tabOk ?_); conv => whnf) | (refine wl_add rfl rfl rfl rfl rfl rfl (by omega) (by omega) (run_l tabOk ?_); conv => whnf) | (refine wl_sub rfl rfl rfl rfl rfl rfl (by omega) (by omega) (run_l tabOk ?_); conv => whnf) | (refine wl_cvA tabOk rfl rfl rfl (by simp only [inK]; omega) rfl rfl rfl (run_l tabOk ?_); conv => whnf) | (refine wl_cvB tabOk rfl rfl rfl rfl rfl rfl (run_l tabOk ?_); conv => whnf) | (refine wl_rem rfl rfl rfl rfl rfl rfl (by omega) (by omega) (fun r hr hr0 hr1 hr2 => run_l tabOk ?_); conv => whnf) | (refine wl_quo rfl rfl rfl rfl rfl rfl (by omega) (by omega) (by simp only [inK]; omega) (run_l tabOk ?_); conv => whnf) | (refine wl_mul rfl rfl rfl rfl rfl rfl (by omega) (by omega) (run_l tabOk ?_); conv => whnf) | (refine gs_dt (by first | assumption | omega) ?_; conv => whnf) | (refine gs_df (by first | assumption | omega) ?_; conv => whnf) | (refine gs_t (by assumption) ?_; conv => whnf) | (refine gs_f (by assumption) ?_; conv => whnf) | (refine gs_d (fun hg => ?_) (fun hg => ?_) <;> conv => whnf) | (refine gs_n (fun hg => ?_) (fun hg => ?_) <;> conv => whnf) | (refine gs_nb (fun hg => ?_) (fun hg => ?_) <;> conv => whnf) | (refine gs_b (fun hg => ?_) (fun hg => ?_) <;> conv => whnf) | refine fin1 rfl rfl ?_))
  refine wl_C fn20 (sysRight ⟨n, xs, ys⟩ A1 A2 c1 c2 w1 (h1.up stays_Cell hB) (h2.up stays_Con hB)) rfl rfl rfl rfl rfl rfl rfl ?_
  rintro _ w2 ⟨rfl, hB2⟩
  rw [hright]
  have hb := blk_up hB2 hb
  have hB := bup hB hB2
  refine ⟨_, rfl, run_l tabOk ?_⟩
  conv => whnf
  (repeat' (first | (refine wl_Lg tabOk hb rfl rfl rfl rfl rfl rfl rfl (run_l tabOk ?_); conv => whnf) | (refine wl_Lag tabOk hb rfl rfl rfl rfl rfl rfl (run_l tabOk ?_); conv => whnf) | (refine wl_add rfl rfl rfl rfl rfl rfl (by omega) (by omega) (run_l tabOk ?_); conv => whnf) | (refine wl_sub rfl rfl rfl rfl rfl rfl (by omega) (by omega) (run_l tabOk ?_); conv => whnf) | (refine wl_cvA tabOk rfl rfl rfl (by simp only [inK]; omega) rfl rfl rfl (run_l tabOk ?_); conv => whnf) | (refine wl_cvB tabOk rfl rfl rfl rfl rfl rfl (run_l tabOk ?_); conv => whnf) | (refine wl_rem rfl rfl rfl rfl rfl rfl (by omega) (by omega) (fun r hr hr0 hr1 hr2 => run_l tabOk ?_); conv => whnf) | (refine wl_quo rfl rfl rfl rfl rfl rfl (by omega) (by omega) (by simp only [inK]; omega) (run_l tabOk ?_); conv => whnf) | (refine wl_mul rfl rfl rfl rfl rfl rfl (by omega) (by omega) (run_l tabOk ?_); conv => whnf) | (refine gs_dt (by first | assumption | omega) ?_; conv => whnf) | (refine gs_df (by first | assumption | omega) ?_; conv => whnf) | (refine gs_t (by assumption) ?_; conv => whnf) | (refine gs_f (by assumption) ?_; conv => whnf) | (refine gs_d (fun hg => ?_) (fun hg => ?_) <;> conv => whnf) | (refine gs_n (fun hg => ?_) (fun hg => ?_) <;> conv => whnf) | (refine gs_nb (fun hg => ?_) (fun hg => ?_) <;> conv => whnf) | (refine gs_b (fun hg => ?_) (fun hg => ?_) <;> conv => whnf) | refine fin1 rfl rfl ?_))
  refine wl_C fn21 (leastMatrix n xs.length [] A1 A2 none ys.length c1 c2 0 w2 (RowR.nil ..) hn hnc) rfl rfl rfl rfl rfl rfl rfl ?_
  rintro _ w3 ⟨hB3, hres⟩
  have hb3 := blk_up hB3 hb
  have hB03 := bup hB hB3
  rcases hres with ⟨_, gm, rb, rfl, hM, hgm, hgr⟩ | ⟨hok, _⟩
  · rw [matOf_nil] at hM
    have hr1 : g1 ∉ rb := fun hm => by have := (hM.ge g1 hm).1; have := blk_lt hb; omega
    refine ⟨_, rfl, run_l tabOk ?_⟩
    conv => whnf
    refine lp_loop tabOk (X := Mat × Bool) (fun y => [(1, .pointer (some ⟨g1, 0, none⟩)), (3, .slice (some ⟨gm, 0, none⟩) n n), (4, .bool y.2)])
      (fun y wr => BMat w2.heap.size wr (some ⟨gm, 0, none⟩) y.1 rb n xs.length ∧ Keeps rb w3 wr ∧ (∀ N, ClosedM ⟨n, xs, ys⟩ N → LeM y.1 N) ∧ (y.2 = false → ClosedM ⟨n, xs, ys⟩ y.1)) (fun y => if y.2 then 1 + (n * xs.length - cnt y.1) else 0) (zeroM n xs.length, true) ⟨rfl, rfl, rfl, trivial⟩ ⟨hM, Keeps.refl _ _, fun N _ => zeroM_le _ _ N, nofun⟩ ?_
    rintro ⟨M, more⟩ G wr ⟨hMr, hKr, hleast, hclosed⟩
    simp only at hMr hKr hleast hclosed
    conv => whnf
    have hb1r := hKr.blk hb3 hr1
    (repeat' (first | (refine wl_Lg tabOk hb1r rfl rfl rfl rfl rfl rfl rfl (run_l tabOk ?_); conv => whnf) | (refine wl_add rfl rfl rfl rfl rfl rfl (by omega) (by omega) (run_l tabOk ?_); conv => whnf) | (refine wl_sub rfl rfl rfl rfl rfl rfl (by omega) (by omega) (run_l tabOk ?_); conv => whnf) | (refine wl_cvA tabOk rfl rfl rfl (by simp only [inK]; omega) rfl rfl rfl (run_l tabOk ?_); conv => whnf) | (refine wl_cvB tabOk rfl rfl rfl rfl rfl rfl (run_l tabOk ?_); conv => whnf) | (refine wl_rem rfl rfl rfl rfl rfl rfl (by omega) (by omega) (fun r hr hr0 hr1 hr2 => run_l tabOk ?_); conv => whnf) | (refine wl_quo rfl rfl rfl rfl rfl rfl (by omega) (by omega) (by simp only [inK]; omega) (run_l tabOk ?_); conv => whnf) | (refine wl_mul rfl rfl rfl rfl rfl rfl (by omega) (by omega) (run_l tabOk ?_); conv => whnf) | (refine gs_dt (by first | assumption | omega) ?_; conv => whnf) | (refine gs_df (by first | assumption | omega) ?_; conv => whnf) | (refine gs_t (by assumption) ?_; conv => whnf) | (refine gs_f (by assumption) ?_; conv => whnf) | (refine gs_d (fun hg => ?_) (fun hg => ?_) <;> conv => whnf) | (refine gs_n (fun hg => ?_) (fun hg => ?_) <;> conv => whnf) | (refine gs_nb (fun hg => ?_) (fun hg => ?_) <;> conv => whnf) | (refine gs_b (fun hg => ?_) (fun hg => ?_) <;> conv => whnf) | refine fin1 rfl rfl ?_))
    · -- once more
      have hmt : more = true := by assumption
      subst hmt
      refine lp_loop tabOk (X := Nat × Mat × Bool) (fun y => [(1, .pointer (some ⟨g1, 0, none⟩)), (3, .slice (some ⟨gm, 0, none⟩) n n), (4, .bool y.2.2), (18, .slice A2 ys.length c2), (19, .int .i64 ys.length), (20, .int .i64 y.1)])
        (fun y wi => y.1 ≤ ys.length ∧ BMat w2.heap.size wi (some ⟨gm, 0, none⟩) y.2.1 rb n xs.length ∧ Keeps rb wr wi ∧ Tr n xs.length (ClosedM ⟨n, xs, ys⟩) (∀ j, j < y.1 → ruleP xs ys[j]! M) M y.2.1 y.2.2) (fun y => ys.length - y.1) (0, M, false) ⟨rfl, rfl, rfl, rfl, rfl, rfl, trivial⟩ ⟨by simp, hMr, Keeps.refl _ _, Tr.start hMr.sh fun j hj => by simp at hj⟩ ?_
      rintro ⟨i, Mi, bi⟩ G2 wi ⟨hi, hMi, hKi, hT⟩
      simp only at hi hMi hKi hT
      conv => whnf
      have hb1i := hKi.blk hb1r hr1
      have hwi : Below w.heap.size w wi := (hKr.trans hKi).low hM hB03 hB.size
      by_cases hil : i < ys.length
      · have hci := hgc i hil
        obtain ⟨c, ady, B, bc, hyc, rfl, ey, _, hbr, _⟩ := consE h2 i hil
        rw [hyc.out] at hci
        (repeat' (first | (refine wl_Xn tabOk 48 4 rfl rfl rfl rfl rfl rfl rfl (by omega) (run_l tabOk ?_); conv => whnf) | (refine wl_La tabOk (cellsAt_up hwi ey) rfl rfl rfl rfl rfl rfl (run_l tabOk ?_); conv => whnf) | (refine wl_add rfl rfl rfl rfl rfl rfl (by omega) (by omega) (run_l tabOk ?_); conv => whnf) | (refine wl_sub rfl rfl rfl rfl rfl rfl (by omega) (by omega) (run_l tabOk ?_); conv => whnf) | (refine wl_cvA tabOk rfl rfl rfl (by simp only [inK]; omega) rfl rfl rfl (run_l tabOk ?_); conv => whnf) | (refine wl_cvB tabOk rfl rfl rfl rfl rfl rfl (run_l tabOk ?_); conv => whnf) | (refine wl_rem rfl rfl rfl rfl rfl rfl (by omega) (by omega) (fun r hr hr0 hr1 hr2 => run_l tabOk ?_); conv => whnf) | (refine wl_quo rfl rfl rfl rfl rfl rfl (by omega) (by omega) (by simp only [inK]; omega) (run_l tabOk ?_); conv => whnf) | (refine wl_mul rfl rfl rfl rfl rfl rfl (by omega) (by omega) (run_l tabOk ?_); conv => whnf) | (refine gs_dt (by first | assumption | omega) ?_; conv => whnf) | (refine gs_df (by first | assumption | omega) ?_; conv => whnf) | (refine gs_t (by assumption) ?_; conv => whnf) | (refine gs_f (by assumption) ?_; conv => whnf) | (refine gs_d (fun hg => ?_) (fun hg => ?_) <;> conv => whnf) | (refine gs_n (fun hg => ?_) (fun hg => ?_) <;> conv => whnf) | (refine gs_nb (fun hg => ?_) (fun hg => ?_) <;> conv => whnf) | (refine gs_b (fun hg => ?_) (fun hg => ?_) <;> conv => whnf) | refine fin1 rfl rfl ?_))
        refine wl_alloc tabOk rfl rfl rfl rfl rfl rfl ?_
        intro g7 w6 hn6
        refine wl_Sa tabOk hn6.blk rfl rfl rfl rfl rfl (by simp [Value.oneCell']) rfl rfl ?_
        intro w7 hp7
        have hB7 : Below wi.heap.size wi w7 := hp7.below hn6.below (by have := hn6.at_; omega) (by have := hn6.size; omega)
        have hb7 := hp7.blk
        have hb1s := blk_up hB7 hb1i
        refine run_l tabOk ?_
        conv => whnf
        (repeat' (first | (refine wl_Lag tabOk hb1s rfl rfl rfl rfl rfl rfl (run_l tabOk ?_); conv => whnf) | (refine wl_Lag tabOk hb7 rfl rfl rfl rfl rfl rfl (run_l tabOk ?_); conv => whnf) | (refine wl_add rfl rfl rfl rfl rfl rfl (by omega) (by omega) (run_l tabOk ?_); conv => whnf) | (refine wl_sub rfl rfl rfl rfl rfl rfl (by omega) (by omega) (run_l tabOk ?_); conv => whnf) | (refine wl_cvA tabOk rfl rfl rfl (by simp only [inK]; omega) rfl rfl rfl (run_l tabOk ?_); conv => whnf) | (refine wl_cvB tabOk rfl rfl rfl rfl rfl rfl (run_l tabOk ?_); conv => whnf) | (refine wl_rem rfl rfl rfl rfl rfl rfl (by omega) (by omega) (fun r hr hr0 hr1 hr2 => run_l tabOk ?_); conv => whnf) | (refine wl_quo rfl rfl rfl rfl rfl rfl (by omega) (by omega) (by simp only [inK]; omega) (run_l tabOk ?_); conv => whnf) | (refine wl_mul rfl rfl rfl rfl rfl rfl (by omega) (by omega) (run_l tabOk ?_); conv => whnf) | (refine gs_dt (by first | assumption | omega) ?_; conv => whnf) | (refine gs_df (by first | assumption | omega) ?_; conv => whnf) | (refine gs_t (by assumption) ?_; conv => whnf) | (refine gs_f (by assumption) ?_; conv => whnf) | (refine gs_d (fun hg => ?_) (fun hg => ?_) <;> conv => whnf) | (refine gs_n (fun hg => ?_) (fun hg => ?_) <;> conv => whnf) | (refine gs_nb (fun hg => ?_) (fun hg => ?_) <;> conv => whnf) | (refine gs_b (fun hg => ?_) (fun hg => ?_) <;> conv => whnf) | refine fin1 rfl rfl ?_))
        refine wl_C fn22 (leastRule xs ys c Mi rb n w2.heap.size (some ⟨gm, 0, none⟩) A1 (some ady) B n c1 c2 bc w w7 (hMi.up hB7) (bup hwi hB7) hB.size h1 hbr.out hci hgx hnc) rfl rfl rfl rfl rfl rfl rfl ?_
        rintro _ w8 ⟨M4, b4, rfl, hM8, hK8, hT4⟩
        have hT5 := hT.step hMr.sh hT4 (fun N _ h => by have := h i hil; simp only at this; rwa [hyc.out] at this) (Q' := ∀ j, j < i + 1 → ruleP xs ys[j]! M) (fun q h => rules_next q (by rw [hyc.out]; exact h))
        refine ⟨_, rfl, run_l tabOk ?_⟩
        conv => whnf
        (repeat' (first | (refine wl_add rfl rfl rfl rfl rfl rfl (by omega) (by omega) (run_l tabOk ?_); conv => whnf) | (refine wl_sub rfl rfl rfl rfl rfl rfl (by omega) (by omega) (run_l tabOk ?_); conv => whnf) | (refine wl_cvA tabOk rfl rfl rfl (by simp only [inK]; omega) rfl rfl rfl (run_l tabOk ?_); conv => whnf) | (refine wl_cvB tabOk rfl rfl rfl rfl rfl rfl (run_l tabOk ?_); conv => whnf) | (refine wl_rem rfl rfl rfl rfl rfl rfl (by omega) (by omega) (fun r hr hr0 hr1 hr2 => run_l tabOk ?_); conv => whnf) | (refine wl_quo rfl rfl rfl rfl rfl rfl (by omega) (by omega) (by simp only [inK]; omega) (run_l tabOk ?_); conv => whnf) | (refine wl_mul rfl rfl rfl rfl rfl rfl (by omega) (by omega) (run_l tabOk ?_); conv => whnf) | (refine gs_dt (by first | assumption | omega) ?_; conv => whnf) | (refine gs_df (by first | assumption | omega) ?_; conv => whnf) | (refine gs_t (by assumption) ?_; conv => whnf) | (refine gs_f (by assumption) ?_; conv => whnf) | (refine gs_d (fun hg => ?_) (fun hg => ?_) <;> conv => whnf) | (refine gs_n (fun hg => ?_) (fun hg => ?_) <;> conv => whnf) | (refine gs_nb (fun hg => ?_) (fun hg => ?_) <;> conv => whnf) | (refine gs_b (fun hg => ?_) (fun hg => ?_) <;> conv => whnf) | refine fin1 rfl rfl ?_))
        · have hb4 : b4 = true := by assumption
          subst hb4
          rw [Bool.or_true] at hT5
          exact ⟨(i + 1, M4, true), ⟨rfl, rfl, rfl, rfl, rfl, rfl, trivial⟩, ⟨by simp only; omega, hM8, (hKi.up hB7).trans hK8, hT5⟩, by simp only; omega⟩
        · have hb4 : b4 = false := by assumption
          subst hb4
          rw [Bool.or_false] at hT5
          exact ⟨(i + 1, M4, bi), ⟨rfl, rfl, rfl, rfl, rfl, rfl, trivial⟩, ⟨by simp only; omega, hM8, (hKi.up hB7).trans hK8, hT5⟩, by simp only; omega⟩
      · have hie : i = ys.length := by omega
        subst hie
        (repeat' (first | (refine wl_add rfl rfl rfl rfl rfl rfl (by omega) (by omega) (run_l tabOk ?_); conv => whnf) | (refine wl_sub rfl rfl rfl rfl rfl rfl (by omega) (by omega) (run_l tabOk ?_); conv => whnf) | (refine wl_cvA tabOk rfl rfl rfl (by simp only [inK]; omega) rfl rfl rfl (run_l tabOk ?_); conv => whnf) | (refine wl_cvB tabOk rfl rfl rfl rfl rfl rfl (run_l tabOk ?_); conv => whnf) | (refine wl_rem rfl rfl rfl rfl rfl rfl (by omega) (by omega) (fun r hr hr0 hr1 hr2 => run_l tabOk ?_); conv => whnf) | (refine wl_quo rfl rfl rfl rfl rfl rfl (by omega) (by omega) (by simp only [inK]; omega) (run_l tabOk ?_); conv => whnf) | (refine wl_mul rfl rfl rfl rfl rfl rfl (by omega) (by omega) (run_l tabOk ?_); conv => whnf) | (refine gs_dt (by first | assumption | omega) ?_; conv => whnf) | (refine gs_df (by first | assumption | omega) ?_; conv => whnf) | (refine gs_t (by assumption) ?_; conv => whnf) | (refine gs_f (by assumption) ?_; conv => whnf) | (refine gs_d (fun hg => ?_) (fun hg => ?_) <;> conv => whnf) | (refine gs_n (fun hg => ?_) (fun hg => ?_) <;> conv => whnf) | (refine gs_nb (fun hg => ?_) (fun hg => ?_) <;> conv => whnf) | (refine gs_b (fun hg => ?_) (fun hg => ?_) <;> conv => whnf) | refine fin1 rfl rfl ?_))
        have hcl : bi = false → ClosedM ⟨n, xs, ys⟩ Mi := fun e => by
          obtain ⟨e1, e2⟩ := hT.no e
          rw [e1]
          exact fun j hj => e2 j hj
        refine ⟨(Mi, bi), ⟨rfl, rfl, rfl, trivial⟩, ⟨hMi, hKr.trans hKi, fun N hN => hT.least N (hleast N hN) hN, hcl⟩, ?_⟩
        simp only
        cases bi with
        | false => simp; omega
        | true =>
          have h3 := cnt_lt hMr.sh hMi.sh hT.le (hT.yes rfl)
          have h4 := cnt_le hMi.sh
          simp only [if_true]
          omega
    · have hmf : more = false := by assumption
      have hcl := hclosed hmf
      have hil : IsLeast ⟨n, xs, ys⟩ M := ⟨by simpa using hMr.sh, hcl, hleast⟩
      have hbw : Below w.heap.size w wr := hKr.low hM hB03 hB.size
      refine wl_mk (m := n) tabOk 32 1 24 rfl rfl rfl rfl rfl rfl rfl rfl rfl (by omega) (by omega) ?_
      intro go w4 hn4
      have hG4 : GMat wr.heap.size go w4 (List.replicate n (.slice none 0 0)) (ptsTo M n 0) [] := by
        have := GMat.init (base := wr.heap.size) hn4.blk (by have := hn4.at_; omega)
        have e : ptsTo M n 0 = List.replicate n [] := by simp [ptsTo]
        rw [e]
        exact this
      have hgo : go = wr.heap.size := hn4.at_
      have hB4 := hn4.below
      clear hn4
      refine run_l tabOk ?_
      conv => whnf
      refine lp_loop tabOk (X := Nat) (fun v => [(3, .slice (some ⟨gm, 0, none⟩) n n), (7, .slice (some ⟨go, 0, none⟩) n n), (36, .int .i64 n), (37, .int .i64 v)])
        (fun v wo => v ≤ n ∧ Below wr.heap.size wr wo ∧ ∃ vs bl, GMat wr.heap.size go wo vs (ptsTo M n v) bl) (fun v => n - v) 0 ⟨rfl, rfl, rfl, rfl, trivial⟩ ⟨by omega, hB4, _, _, hG4⟩ ?_
      clear hG4 hB4
      rintro v G2 wo ⟨hv, hBo, vs, bl, hGo⟩
      conv => whnf
      by_cases hvl : v < n
      · obtain ⟨ad, e3, hcv⟩ := (hMr.up hBo).cells hvl
        cases e3
        (repeat' (first | (refine wl_L tabOk rfl rfl rfl rfl rfl rfl hcv (run_l tabOk ?_); conv => whnf) | (refine wl_Xn tabOk 35 1 rfl rfl rfl rfl rfl rfl rfl (by omega) (run_l tabOk ?_); conv => whnf) | (refine wl_add rfl rfl rfl rfl rfl rfl (by omega) (by omega) (run_l tabOk ?_); conv => whnf) | (refine wl_sub rfl rfl rfl rfl rfl rfl (by omega) (by omega) (run_l tabOk ?_); conv => whnf) | (refine wl_cvA tabOk rfl rfl rfl (by simp only [inK]; omega) rfl rfl rfl (run_l tabOk ?_); conv => whnf) | (refine wl_cvB tabOk rfl rfl rfl rfl rfl rfl (run_l tabOk ?_); conv => whnf) | (refine wl_rem rfl rfl rfl rfl rfl rfl (by omega) (by omega) (fun r hr hr0 hr1 hr2 => run_l tabOk ?_); conv => whnf) | (refine wl_quo rfl rfl rfl rfl rfl rfl (by omega) (by omega) (by simp only [inK]; omega) (run_l tabOk ?_); conv => whnf) | (refine wl_mul rfl rfl rfl rfl rfl rfl (by omega) (by omega) (run_l tabOk ?_); conv => whnf) | (refine gs_dt (by first | assumption | omega) ?_; conv => whnf) | (refine gs_df (by first | assumption | omega) ?_; conv => whnf) | (refine gs_t (by assumption) ?_; conv => whnf) | (refine gs_f (by assumption) ?_; conv => whnf) | (refine gs_d (fun hg => ?_) (fun hg => ?_) <;> conv => whnf) | (refine gs_n (fun hg => ?_) (fun hg => ?_) <;> conv => whnf) | (refine gs_nb (fun hg => ?_) (fun hg => ?_) <;> conv => whnf) | (refine gs_b (fun hg => ?_) (fun hg => ?_) <;> conv => whnf) | refine fin1 rfl rfl ?_))
        refine lp_loop tabOk (X := Nat) (fun k => [(3, .slice (some ⟨gm, 0, none⟩) n n), (7, .slice (some ⟨go, 0, none⟩) n n), (8, .int .i64 v), (36, .int .i64 n), (37, .int .i64 v), (43, .slice (some ⟨rb[v]!, 0, none⟩) xs.length xs.length), (44, .int .i64 xs.length), (45, .int .i64 k)])
          (fun k wk => k ≤ xs.length ∧ Below wr.heap.size wr wk ∧ ∃ vs bl, GMat wr.heap.size go wk vs ((ptsTo M n v).set v (rowTo M[v]! k)) bl) (fun k => xs.length - k) 0 ⟨rfl, rfl, rfl, rfl, rfl, rfl, rfl, rfl, trivial⟩ ⟨by omega, hBo, vs, bl, by
            have e : (ptsTo M n v).set v (rowTo M[v]! 0) = ptsTo M n v := by
              have h0 : rowTo M[v]! 0 = [] := rfl
              have hx := ptsTo_at (M := M) hvl
              rw [getElem!_pos _ v (by rw [ptsTo_len hv]; exact hvl)] at hx
              rw [h0, ← hx, List.set_getElem_self]
            rw [e]
            exact hGo⟩ ?_
        clear hGo
        rintro k G3 wk ⟨hk, hBk, vs, bl, hGk⟩
        conv => whnf
        have hrl : (ptsTo M n v).length = n := ptsTo_len hv
        by_cases hkl : k < xs.length
        · have hbit := (hMr.up hBk).bit hvl hkl
          have hnx := rowTo_next M[v]! k
          (repeat' (first | (refine wl_L tabOk rfl rfl rfl rfl rfl rfl hbit (run_l tabOk ?_); conv => whnf) | (refine wl_Xn tabOk 4 1 rfl rfl rfl rfl rfl rfl rfl (by omega) (run_l tabOk ?_); conv => whnf) | (refine wl_add rfl rfl rfl rfl rfl rfl (by omega) (by omega) (run_l tabOk ?_); conv => whnf) | (refine wl_sub rfl rfl rfl rfl rfl rfl (by omega) (by omega) (run_l tabOk ?_); conv => whnf) | (refine wl_cvA tabOk rfl rfl rfl (by simp only [inK]; omega) rfl rfl rfl (run_l tabOk ?_); conv => whnf) | (refine wl_cvB tabOk rfl rfl rfl rfl rfl rfl (run_l tabOk ?_); conv => whnf) | (refine wl_rem rfl rfl rfl rfl rfl rfl (by omega) (by omega) (fun r hr hr0 hr1 hr2 => run_l tabOk ?_); conv => whnf) | (refine wl_quo rfl rfl rfl rfl rfl rfl (by omega) (by omega) (by simp only [inK]; omega) (run_l tabOk ?_); conv => whnf) | (refine wl_mul rfl rfl rfl rfl rfl rfl (by omega) (by omega) (run_l tabOk ?_); conv => whnf) | (refine gs_dt (by first | assumption | omega) ?_; conv => whnf) | (refine gs_df (by first | assumption | omega) ?_; conv => whnf) | (refine gs_t (by assumption) ?_; conv => whnf) | (refine gs_f (by assumption) ?_; conv => whnf) | (refine gs_d (fun hg => ?_) (fun hg => ?_) <;> conv => whnf) | (refine gs_n (fun hg => ?_) (fun hg => ?_) <;> conv => whnf) | (refine gs_nb (fun hg => ?_) (fun hg => ?_) <;> conv => whnf) | (refine gs_b (fun hg => ?_) (fun hg => ?_) <;> conv => whnf) | refine fin1 rfl rfl ?_))
          · have hin : mg M v k = true := by assumption
            rw [if_pos (show (M[v]!)[k]! = true from hin)] at hnx
            have hvi : v < ((ptsTo M n v).set v (rowTo M[v]! k)).length := by simp [hrl]; omega
            have hcur : ((ptsTo M n v).set v (rowTo M[v]! k))[v]! = rowTo M[v]! k := by rw [get_set _ _ _ _ (by rw [hrl]; exact hvl), if_pos rfl]
            have hrow := (hGk.row v hvi).1
            have hrowl := (hGk.row v hvi).2
            rw [hcur] at hrow
            obtain ⟨flat, hown, hel⟩ := hrow.own
            have hcell := hGk.cell hvi
            have hlen := rowTo_len M[v]! k
            (repeat' (first | (refine wl_L tabOk rfl rfl rfl rfl rfl rfl hcell (run_l tabOk ?_); conv => whnf) | (refine wl_Xn tabOk 32 1 rfl rfl rfl rfl rfl rfl rfl (by omega) (run_l tabOk ?_); conv => whnf) | (refine wl_add rfl rfl rfl rfl rfl rfl (by omega) (by omega) (run_l tabOk ?_); conv => whnf) | (refine wl_sub rfl rfl rfl rfl rfl rfl (by omega) (by omega) (run_l tabOk ?_); conv => whnf) | (refine wl_cvA tabOk rfl rfl rfl (by simp only [inK]; omega) rfl rfl rfl (run_l tabOk ?_); conv => whnf) | (refine wl_cvB tabOk rfl rfl rfl rfl rfl rfl (run_l tabOk ?_); conv => whnf) | (refine wl_rem rfl rfl rfl rfl rfl rfl (by omega) (by omega) (fun r hr hr0 hr1 hr2 => run_l tabOk ?_); conv => whnf) | (refine wl_quo rfl rfl rfl rfl rfl rfl (by omega) (by omega) (by simp only [inK]; omega) (run_l tabOk ?_); conv => whnf) | (refine wl_mul rfl rfl rfl rfl rfl rfl (by omega) (by omega) (run_l tabOk ?_); conv => whnf) | (refine gs_dt (by first | assumption | omega) ?_; conv => whnf) | (refine gs_df (by first | assumption | omega) ?_; conv => whnf) | (refine gs_t (by assumption) ?_; conv => whnf) | (refine gs_f (by assumption) ?_; conv => whnf) | (refine gs_d (fun hg => ?_) (fun hg => ?_) <;> conv => whnf) | (refine gs_n (fun hg => ?_) (fun hg => ?_) <;> conv => whnf) | (refine gs_nb (fun hg => ?_) (fun hg => ?_) <;> conv => whnf) | (refine gs_b (fun hg => ?_) (fun hg => ?_) <;> conv => whnf) | refine fin1 rfl rfl ?_))
            refine wl_bs tabOk 3 1 rfl rfl rfl rfl rfl rfl rfl rfl rfl rfl ?_
            intro gn u1 hn
            refine run_l tabOk ?_
            conv => whnf
            refine wl_ap tabOk 3 1 8 (hown.kept (grown_of hn.below) (Classical.em _)) hn.blk rfl rfl rfl rfl rfl rfl rfl rfl rfl rfl rfl rfl (by simp [Value.oneCell']) (by omega) (by omega) (by have := hn.size; have := hBk.size; omega) ?_
            intro D dc u2 hown2 hg2 hob2
            have hrow1 := hrow.below hn.below
            have hpush := gints_push hrow1 (fun w' _ => ⟨(hel wk (fun _ _ => rfl)).1, (hel wk (fun _ _ => rfl)).2⟩) hown2 hg2 hob2 (y := (k : Int)) (by omega)
            obtain ⟨v8, hv8⟩ : ∃ v8, v8 = Value.slice D ((rowTo M[v]! k).length + 1) dc := ⟨_, rfl⟩
            have hgk : wk.grownBy u2 vs[v]!.ownBlock := grown_trans (grown_of hn.below) hg2
            have hob : (Value.slice D ((rowTo M[v]! k).length + 1) dc).ownBlock = vs[v]!.ownBlock ∨ ∃ b, (Value.slice D ((rowTo M[v]! k).length + 1) dc).ownBlock = some b ∧ wk.heap.size ≤ b := hob2.imp id fun e => ⟨_, e, hn.below.size⟩
            have hgne : ∀ k, vs[v]!.ownBlock = some k → k ≠ go := fun k e e' => hGk.gb (e' ▸ hrowl k e)
            have hB2 : Below wr.heap.size wr u2 := hBk.grown hgk hBk.size (fun k e => (hGk.lt k (hrowl k e)).1)
            rw [← hv8] at hpush hob
            refine run_l tabOk ?_
            conv => whnf
            (repeat' (first | (refine wl_Xn tabOk 32 1 rfl rfl rfl rfl rfl rfl rfl (by omega) (run_l tabOk ?_); conv => whnf) | (refine wl_add rfl rfl rfl rfl rfl rfl (by omega) (by omega) (run_l tabOk ?_); conv => whnf) | (refine wl_sub rfl rfl rfl rfl rfl rfl (by omega) (by omega) (run_l tabOk ?_); conv => whnf) | (refine wl_cvA tabOk rfl rfl rfl (by simp only [inK]; omega) rfl rfl rfl (run_l tabOk ?_); conv => whnf) | (refine wl_cvB tabOk rfl rfl rfl rfl rfl rfl (run_l tabOk ?_); conv => whnf) | (refine wl_rem rfl rfl rfl rfl rfl rfl (by omega) (by omega) (fun r hr hr0 hr1 hr2 => run_l tabOk ?_); conv => whnf) | (refine wl_quo rfl rfl rfl rfl rfl rfl (by omega) (by omega) (by simp only [inK]; omega) (run_l tabOk ?_); conv => whnf) | (refine wl_mul rfl rfl rfl rfl rfl rfl (by omega) (by omega) (run_l tabOk ?_); conv => whnf) | (refine gs_dt (by first | assumption | omega) ?_; conv => whnf) | (refine gs_df (by first | assumption | omega) ?_; conv => whnf) | (refine gs_t (by assumption) ?_; conv => whnf) | (refine gs_f (by assumption) ?_; conv => whnf) | (refine gs_d (fun hg => ?_) (fun hg => ?_) <;> conv => whnf) | (refine gs_n (fun hg => ?_) (fun hg => ?_) <;> conv => whnf) | (refine gs_nb (fun hg => ?_) (fun hg => ?_) <;> conv => whnf) | (refine gs_b (fun hg => ?_) (fun hg => ?_) <;> conv => whnf) | refine fin1 rfl rfl ?_))
            have hblk2 : u2.heap[go]? = some (.cells vs.toArray 32 (0, 0)) := (hgk.block go (blk_lt hGk.blk) (fun e => hgne go e.symm rfl)).trans hGk.blk
            refine wl_Se (j := v * 1) (v := v8) tabOk hblk2 rfl rfl (by rw [hv8]; rfl) rfl rfl (by rw [hv8]; rfl) (by rw [hGk.len]; omega) rfl rfl ?_
            intro u3 hp3
            rw [Nat.mul_one] at hp3
            have hG3 := hGk.app hvi (by rw [hcur]; exact hpush) hgk hob hp3
            rw [hcur, List.set_set, ← hnx] at hG3
            refine run_l tabOk ?_
            conv => whnf
            (repeat' (first | (refine wl_add rfl rfl rfl rfl rfl rfl (by omega) (by omega) (run_l tabOk ?_); conv => whnf) | (refine wl_sub rfl rfl rfl rfl rfl rfl (by omega) (by omega) (run_l tabOk ?_); conv => whnf) | (refine wl_cvA tabOk rfl rfl rfl (by simp only [inK]; omega) rfl rfl rfl (run_l tabOk ?_); conv => whnf) | (refine wl_cvB tabOk rfl rfl rfl rfl rfl rfl (run_l tabOk ?_); conv => whnf) | (refine wl_rem rfl rfl rfl rfl rfl rfl (by omega) (by omega) (fun r hr hr0 hr1 hr2 => run_l tabOk ?_); conv => whnf) | (refine wl_quo rfl rfl rfl rfl rfl rfl (by omega) (by omega) (by simp only [inK]; omega) (run_l tabOk ?_); conv => whnf) | (refine wl_mul rfl rfl rfl rfl rfl rfl (by omega) (by omega) (run_l tabOk ?_); conv => whnf) | (refine gs_dt (by first | assumption | omega) ?_; conv => whnf) | (refine gs_df (by first | assumption | omega) ?_; conv => whnf) | (refine gs_t (by assumption) ?_; conv => whnf) | (refine gs_f (by assumption) ?_; conv => whnf) | (refine gs_d (fun hg => ?_) (fun hg => ?_) <;> conv => whnf) | (refine gs_n (fun hg => ?_) (fun hg => ?_) <;> conv => whnf) | (refine gs_nb (fun hg => ?_) (fun hg => ?_) <;> conv => whnf) | (refine gs_b (fun hg => ?_) (fun hg => ?_) <;> conv => whnf) | refine fin1 rfl rfl ?_))
            exact ⟨k + 1, ⟨rfl, rfl, rfl, rfl, rfl, rfl, rfl, rfl, trivial⟩, ⟨by omega, hp3.below hB2 (by omega) hB2.size, _, _, hG3⟩, by omega⟩
          · have hin : mg M v k = false := by assumption
            rw [if_neg (show ¬ (M[v]!)[k]! = true from fun h => by rw [show (M[v]!)[k]! = false from hin] at h; cases h)] at hnx
            exact ⟨k + 1, ⟨rfl, rfl, rfl, rfl, rfl, rfl, rfl, rfl, trivial⟩, ⟨by omega, hBk, vs, bl, by rw [hnx]; exact hGk⟩, by omega⟩
        · have hkx : k = xs.length := by omega
          subst hkx
          (repeat' (first | (refine wl_add rfl rfl rfl rfl rfl rfl (by omega) (by omega) (run_l tabOk ?_); conv => whnf) | (refine wl_sub rfl rfl rfl rfl rfl rfl (by omega) (by omega) (run_l tabOk ?_); conv => whnf) | (refine wl_cvA tabOk rfl rfl rfl (by simp only [inK]; omega) rfl rfl rfl (run_l tabOk ?_); conv => whnf) | (refine wl_cvB tabOk rfl rfl rfl rfl rfl rfl (run_l tabOk ?_); conv => whnf) | (refine wl_rem rfl rfl rfl rfl rfl rfl (by omega) (by omega) (fun r hr hr0 hr1 hr2 => run_l tabOk ?_); conv => whnf) | (refine wl_quo rfl rfl rfl rfl rfl rfl (by omega) (by omega) (by simp only [inK]; omega) (run_l tabOk ?_); conv => whnf) | (refine wl_mul rfl rfl rfl rfl rfl rfl (by omega) (by omega) (run_l tabOk ?_); conv => whnf) | (refine gs_dt (by first | assumption | omega) ?_; conv => whnf) | (refine gs_df (by first | assumption | omega) ?_; conv => whnf) | (refine gs_t (by assumption) ?_; conv => whnf) | (refine gs_f (by assumption) ?_; conv => whnf) | (refine gs_d (fun hg => ?_) (fun hg => ?_) <;> conv => whnf) | (refine gs_n (fun hg => ?_) (fun hg => ?_) <;> conv => whnf) | (refine gs_nb (fun hg => ?_) (fun hg => ?_) <;> conv => whnf) | (refine gs_b (fun hg => ?_) (fun hg => ?_) <;> conv => whnf) | refine fin1 rfl rfl ?_))
          refine ⟨v + 1, ⟨rfl, rfl, rfl, rfl, trivial⟩, ⟨by omega, hBk, vs, bl, ?_⟩, by omega⟩
          have e : rowTo M[v]! xs.length = rowPts M[v]! := by rw [rowPts, hMr.sh.cols v hvl]
          rw [e, ptsTo_next hvl] at hGk
          exact hGk
      · have hvn : v = n := by omega
        subst hvn
        (repeat' (first | (refine wl_add rfl rfl rfl rfl rfl rfl (by omega) (by omega) (run_l tabOk ?_); conv => whnf) | (refine wl_sub rfl rfl rfl rfl rfl rfl (by omega) (by omega) (run_l tabOk ?_); conv => whnf) | (refine wl_cvA tabOk rfl rfl rfl (by simp only [inK]; omega) rfl rfl rfl (run_l tabOk ?_); conv => whnf) | (refine wl_cvB tabOk rfl rfl rfl rfl rfl rfl (run_l tabOk ?_); conv => whnf) | (refine wl_rem rfl rfl rfl rfl rfl rfl (by omega) (by omega) (fun r hr hr0 hr1 hr2 => run_l tabOk ?_); conv => whnf) | (refine wl_quo rfl rfl rfl rfl rfl rfl (by omega) (by omega) (by simp only [inK]; omega) (run_l tabOk ?_); conv => whnf) | (refine wl_mul rfl rfl rfl rfl rfl rfl (by omega) (by omega) (run_l tabOk ?_); conv => whnf) | (refine gs_dt (by first | assumption | omega) ?_; conv => whnf) | (refine gs_df (by first | assumption | omega) ?_; conv => whnf) | (refine gs_t (by assumption) ?_; conv => whnf) | (refine gs_f (by assumption) ?_; conv => whnf) | (refine gs_d (fun hg => ?_) (fun hg => ?_) <;> conv => whnf) | (refine gs_n (fun hg => ?_) (fun hg => ?_) <;> conv => whnf) | (refine gs_nb (fun hg => ?_) (fun hg => ?_) <;> conv => whnf) | (refine gs_b (fun hg => ?_) (fun hg => ?_) <;> conv => whnf) | refine fin1 rfl rfl ?_))
        rw [ptsTo_all hMr.sh] at hGo
        exact ⟨M, go, vs, bl, rfl, hil, hGo.lower hbw.size, bup hbw hBo⟩
  · exact absurd (okPts_nil _ _) hok
theorem leastPoints (n : Nat) (xs : List Cell) (ys : List Con) (A1 A2 : Option Addr) (c1 c2 : Nat) (w : World) (h1 : RCells w A1 xs) (h2 : RCons w A2 ys) (hright : rightB ⟨n, xs, ys⟩ = true) :
    Calls Try.prog 15 #[.agg #[.int .i64 n, .slice A1 xs.length c1, .slice A2 ys.length c2]] w fun e w' => ∃ M A, e = .returned (.slice A n n) ∧ IsLeast ⟨n, xs, ys⟩ M ∧ RRows w' A (ptsOf M) ∧ Below w.heap.size w w' :=
  (leastPointsG n xs ys A1 A2 c1 c2 w h1 h2 hright).mono fun e w' ⟨M, go, vs, bl, he, hi, hg, hb⟩ => ⟨M, _, he, hi, hg.rows (by
    have h1 := hi.sh.rows
    have h2 := (right_parts hright).1
    simp only [ptsOf, List.length_map, h1, Int.toNat_natCast]
    omega), hb⟩
end Go.Proofs.Ytkmnhkfgjadppaa
