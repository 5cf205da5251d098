/- Several texts of one claim in one file: LE23. -/
import Derived.Test.YtkjbkalakafnlaaDoorZ16
import Derived.Test.YtkjbkalakafnlaaDoorZ19
/- The reference's Least: the least map. -/
namespace Go.Proofs.YtkjbkalakafnlaaDoor
open Go.RowKit
set_option linter.unusedVariables false
set_option linter.unusedSimpArgs false
set_option maxRecDepth 100000
set_option maxHeartbeats 8000000 in
theorem refLeast (n : Nat) (xs : List Cell) (ys : List Con) (A1 A2 : Option Addr) (c1 c2 : Nat) (w : World) (h1 : RCells w A1 xs) (h2 : RCons w A2 ys) (hright : rightB ⟨n, xs, ys⟩ = true) :
    Calls Tryd.prog 36 #[.agg #[.int .i64 n, .slice A1 xs.length c1, .slice A2 ys.length c2]] w fun e w' => ∃ M A cap, e = .returned (.slice A n cap) ∧ IsLeast ⟨n, xs, ys⟩ M ∧ RRows w' A (ptsOf M) ∧ n ≤ cap ∧ Below w.heap.size w w' := by
  have hm2 := h2.1
  obtain ⟨hn, hnc, hny, hgx, hgc⟩ := right_parts hright
  have hmul : n * xs.length ≤ 16384 * 16384 := Nat.mul_le_mul hn hnc
  refine enterR (args := [.agg #[.int .i64 n, .slice A1 xs.length c1, .slice A2 ys.length c2]]) tabOk Tryd.func36 rfl Tryd.ntmps36 rfl ?_; conv => whnf
  refine wl_box rfl rfl rfl rfl rfl rfl ?_
  intro g1 w1 hn1
  have hb := hn1.blk
  have hB := hn1.below
  refine run_l tabOk ?_
  conv => whnf
  (repeat' (first | (refine wl_Lg tabOk hb rfl rfl rfl rfl rfl rfl rfl (run_l tabOk ?_); conv => whnf) | (refine wl_add rfl rfl rfl rfl rfl rfl (by omega) (by omega) (run_l tabOk ?_); conv => whnf) | (refine wl_sub rfl rfl rfl rfl rfl rfl (by omega) (by omega) (run_l tabOk ?_); conv => whnf) | (refine wl_cvA tabOk rfl rfl rfl (by simp only [inK]; omega) rfl rfl rfl (run_l tabOk ?_); conv => whnf) | (refine wl_cvB tabOk rfl rfl rfl rfl rfl rfl (run_l tabOk ?_); conv => whnf) | (refine wl_rem rfl rfl rfl rfl rfl rfl (by omega) (by omega) (fun r hr hr0 hr1 hr2 => run_l tabOk ?_); conv => whnf) | (refine wl_quo rfl rfl rfl rfl rfl rfl (by omega) (by omega) (by simp only [inK]; omega) (run_l tabOk ?_); conv => whnf) | (refine wl_mul rfl rfl rfl rfl rfl rfl (by omega) (by omega) (run_l tabOk ?_); conv => whnf) | (refine gs_dt (by first | assumption | omega) ?_; conv => whnf) | (refine gs_df (by first | assumption | omega) ?_; conv => whnf) | (refine gs_t (by assumption) ?_; conv => whnf) | (refine gs_f (by assumption) ?_; conv => whnf) | (refine gs_d (fun hg => ?_) (fun hg => ?_) <;> conv => whnf) | (refine gs_n (fun hg => ?_) (fun hg => ?_) <;> conv => whnf) | (refine gs_nb (fun hg => ?_) (fun hg => ?_) <;> conv => whnf) | (refine gs_b (fun hg => ?_) (fun hg => ?_) <;> conv => whnf) | refine fin1 rfl rfl ?_))
  -- the rows
  refine lp_loop tabOk (X := Nat × Option Addr × Nat × List Nat) (fun y => [(1, .pointer (some ⟨g1, 0, none⟩)), (3, .slice y.2.1 y.1 y.2.2.1), (4, .int .i64 y.1)])
    (fun y wr => y.1 ≤ n ∧ Below w.heap.size w wr ∧ w1.heap.size ≤ wr.heap.size ∧ wr.heap[g1]? = some (.cells #[.int .i64 n, .slice A1 xs.length c1, .slice A2 ys.length c2] 54 (0, 0)) ∧ y.2.2.2.length = y.1 ∧ RM w1.heap.size wr (.slice y.2.1 y.1 y.2.2.1) y.2.2.2 xs.length (zeroM y.1 xs.length)) (fun y => n - y.1) (0, none, 0, []) ⟨rfl, rfl, rfl, trivial⟩ ⟨by simp, hB, Nat.le_refl _, hb, rfl, RM.nil ..⟩ ?_
  rintro ⟨v, A, c, rb⟩ G wr ⟨hv, hBr, hsz, hb, hrl, hRM⟩
  simp only at hv hBr hsz hb hrl hRM
  subst hrl
  conv => whnf
  by_cases hvl : rb.length < n
  · (repeat' (first | (refine wl_Lg tabOk hb rfl rfl rfl rfl rfl rfl rfl (run_l tabOk ?_); conv => whnf) | (refine wl_add rfl rfl rfl rfl rfl rfl (by omega) (by omega) (run_l tabOk ?_); conv => whnf) | (refine wl_sub rfl rfl rfl rfl rfl rfl (by omega) (by omega) (run_l tabOk ?_); conv => whnf) | (refine wl_cvA tabOk rfl rfl rfl (by simp only [inK]; omega) rfl rfl rfl (run_l tabOk ?_); conv => whnf) | (refine wl_cvB tabOk rfl rfl rfl rfl rfl rfl (run_l tabOk ?_); conv => whnf) | (refine wl_rem rfl rfl rfl rfl rfl rfl (by omega) (by omega) (fun r hr hr0 hr1 hr2 => run_l tabOk ?_); conv => whnf) | (refine wl_quo rfl rfl rfl rfl rfl rfl (by omega) (by omega) (by simp only [inK]; omega) (run_l tabOk ?_); conv => whnf) | (refine wl_mul rfl rfl rfl rfl rfl rfl (by omega) (by omega) (run_l tabOk ?_); conv => whnf) | (refine gs_dt (by first | assumption | omega) ?_; conv => whnf) | (refine gs_df (by first | assumption | omega) ?_; conv => whnf) | (refine gs_t (by assumption) ?_; conv => whnf) | (refine gs_f (by assumption) ?_; conv => whnf) | (refine gs_d (fun hg => ?_) (fun hg => ?_) <;> conv => whnf) | (refine gs_n (fun hg => ?_) (fun hg => ?_) <;> conv => whnf) | (refine gs_nb (fun hg => ?_) (fun hg => ?_) <;> conv => whnf) | (refine gs_b (fun hg => ?_) (fun hg => ?_) <;> conv => whnf) | refine fin1 rfl rfl ?_))
    refine wl_mk (m := xs.length) tabOk 4 1 1 rfl rfl rfl rfl rfl rfl rfl rfl rfl (by omega) (by omega) ?_
    intro gr w3 hn3
    refine run_l tabOk ?_
    conv => whnf
    refine wl_bs tabOk 84 1 rfl rfl rfl rfl rfl rfl rfl rfl rfl rfl ?_
    intro gn w4 hn4
    refine run_l tabOk ?_
    conv => whnf
    have hB4 : Below wr.heap.size wr w4 := hn4.up hn3.below
    have hRM4 := hRM.up hB4
    obtain ⟨flat, hown, hel⟩ := hRM4.row.own
    refine wl_ap tabOk 84 1 24 hown hn4.blk rfl rfl rfl rfl rfl rfl rfl rfl rfl rfl rfl rfl (by simp [Value.oneCell']) (by omega) (by omega) (by have := hB4.size; omega) ?_
    intro D dc w5 hown5 hg5 hob5
    have hgr : gr = wr.heap.size := hn3.at_
    have hx := hRM4.snoc (gr := gr) (r := List.replicate xs.length false) hel hown5 hg5 hob5 (by
      have := hn4.old hn3.blk
      have e2 : vb (List.replicate xs.length false) = (List.replicate xs.length [Value.bool false]).flatten := by simp [vb]
      rw [e2]; exact this) (by simp) (by omega) (fun e => by have := (hRM.row.olt gr e.symm).2; omega) (fun hm => by have := (hRM.lt gr hm).2; omega)
    have hB5 : Below w.heap.size w w5 := (hBr.trans (hB4.mono hBr.size)).grown hg5 (by have := hBr.size; have := hB4.size; omega) (fun k hk => by have := (hRM4.row.olt k hk).1; have := hB.size; omega)
    have hb5 := (hg5.block g1 (by have := blk_lt (blk_up hB4 hb); omega) (fun e => by have := (hRM4.row.olt g1 e.symm).1; have := hn1.at_; have := hn1.size; omega)).trans (blk_up hB4 hb)
    refine run_l tabOk ?_
    conv => whnf
    (repeat' (first | (refine wl_add rfl rfl rfl rfl rfl rfl (by omega) (by omega) (run_l tabOk ?_); conv => whnf) | (refine wl_sub rfl rfl rfl rfl rfl rfl (by omega) (by omega) (run_l tabOk ?_); conv => whnf) | (refine wl_cvA tabOk rfl rfl rfl (by simp only [inK]; omega) rfl rfl rfl (run_l tabOk ?_); conv => whnf) | (refine wl_cvB tabOk rfl rfl rfl rfl rfl rfl (run_l tabOk ?_); conv => whnf) | (refine wl_rem rfl rfl rfl rfl rfl rfl (by omega) (by omega) (fun r hr hr0 hr1 hr2 => run_l tabOk ?_); conv => whnf) | (refine wl_quo rfl rfl rfl rfl rfl rfl (by omega) (by omega) (by simp only [inK]; omega) (run_l tabOk ?_); conv => whnf) | (refine wl_mul rfl rfl rfl rfl rfl rfl (by omega) (by omega) (run_l tabOk ?_); conv => whnf) | (refine gs_dt (by first | assumption | omega) ?_; conv => whnf) | (refine gs_df (by first | assumption | omega) ?_; conv => whnf) | (refine gs_t (by assumption) ?_; conv => whnf) | (refine gs_f (by assumption) ?_; conv => whnf) | (refine gs_d (fun hg => ?_) (fun hg => ?_) <;> conv => whnf) | (refine gs_n (fun hg => ?_) (fun hg => ?_) <;> conv => whnf) | (refine gs_nb (fun hg => ?_) (fun hg => ?_) <;> conv => whnf) | (refine gs_b (fun hg => ?_) (fun hg => ?_) <;> conv => whnf) | refine fin1 rfl rfl ?_))
    exact ⟨(rb.length + 1, D, dc, rb ++ [gr]), ⟨rfl, rfl, rfl, trivial⟩, ⟨by simp only; omega, hB5, show w1.heap.size ≤ w5.heap.size by have := hg5.size; have := hB4.size; omega, hb5, by simp, by
      have e : zeroM (rb.length + 1) xs.length = zeroM rb.length xs.length ++ [List.replicate xs.length false] := by simp [zeroM, List.replicate_succ']
      simp only
      rw [e]
      exact hx⟩, by simp only; omega⟩
  · have hvn : rb.length = n := by omega
    subst hvn
    have hM := hRM.bmat
    have hr1 : g1 ∉ rb := fun hm => by have := (hM.ge g1 hm).1; have := hn1.at_; have := hn1.size; omega
    clear hn1
    obtain ⟨sz, hsz2⟩ : ∃ sz, sz = rb.length * xs.length := ⟨_, rfl⟩
    have hszI : (rb.length : Int) * (xs.length : Int) = (sz : Int) := by rw [hsz2]; simp
    rw [← hsz2] at hmul
    (repeat' (first | (refine wl_Lg tabOk hb rfl rfl rfl rfl rfl rfl rfl (run_l tabOk ?_); conv => whnf) | (refine wl_add rfl rfl rfl rfl rfl rfl (by omega) (by omega) (run_l tabOk ?_); conv => whnf) | (refine wl_sub rfl rfl rfl rfl rfl rfl (by omega) (by omega) (run_l tabOk ?_); conv => whnf) | (refine wl_cvA tabOk rfl rfl rfl (by simp only [inK]; omega) rfl rfl rfl (run_l tabOk ?_); conv => whnf) | (refine wl_cvB tabOk rfl rfl rfl rfl rfl rfl (run_l tabOk ?_); conv => whnf) | (refine wl_rem rfl rfl rfl rfl rfl rfl (by omega) (by omega) (fun r hr hr0 hr1 hr2 => run_l tabOk ?_); conv => whnf) | (refine wl_quo rfl rfl rfl rfl rfl rfl (by omega) (by omega) (by simp only [inK]; omega) (run_l tabOk ?_); conv => whnf) | (refine wl_mul rfl rfl rfl rfl rfl rfl (by omega) (by omega) (run_l tabOk ?_); conv => whnf) | (refine gs_dt (by first | assumption | omega) ?_; conv => whnf) | (refine gs_df (by first | assumption | omega) ?_; conv => whnf) | (refine gs_t (by assumption) ?_; conv => whnf) | (refine gs_f (by assumption) ?_; conv => whnf) | (refine gs_d (fun hg => ?_) (fun hg => ?_) <;> conv => whnf) | (refine gs_n (fun hg => ?_) (fun hg => ?_) <;> conv => whnf) | (refine gs_nb (fun hg => ?_) (fun hg => ?_) <;> conv => whnf) | (refine gs_b (fun hg => ?_) (fun hg => ?_) <;> conv => whnf) | refine fin1 rfl rfl ?_))
    refine lp_loop tabOk (X := Nat × Mat) (fun y => [(1, .pointer (some ⟨g1, 0, none⟩)), (3, .slice A rb.length c), (5, .int .i64 y.1)])
      (fun y wk => y.1 ≤ cnt y.2 ∧ BMat w1.heap.size wk A y.2 rb rb.length xs.length ∧ Keeps rb wr wk ∧ (∀ N, ClosedM ⟨rb.length, xs, ys⟩ N → LeM y.2 N)) (fun y => sz + 2 - y.1) (0, zeroM rb.length xs.length) ⟨rfl, rfl, rfl, trivial⟩ ⟨by simp, hM, Keeps.refl _ _, fun N _ => zeroM_le _ _ N⟩ ?_
    rintro ⟨i, M⟩ G2 wk ⟨hi, hMk, hKk, hleast⟩
    simp only at hi hMk hKk hleast
    have hcl := cnt_le hMk.sh
    rw [← hsz2] at hcl
    have hbk := hKk.blk hb hr1
    have hwk : Below w.heap.size w wk := hKk.low hM hBr hB.size
    conv => whnf
    (repeat' (first | (refine wl_Lg tabOk hbk rfl rfl rfl rfl rfl rfl rfl (run_l tabOk ?_); conv => whnf) | (refine wl_Lag tabOk hbk rfl rfl rfl rfl rfl rfl (run_l tabOk ?_); conv => whnf) | (refine wl_add rfl rfl rfl rfl rfl rfl (by omega) (by omega) (run_l tabOk ?_); conv => whnf) | (refine wl_sub rfl rfl rfl rfl rfl rfl (by omega) (by omega) (run_l tabOk ?_); conv => whnf) | (refine wl_cvA tabOk rfl rfl rfl (by simp only [inK]; omega) rfl rfl rfl (run_l tabOk ?_); conv => whnf) | (refine wl_cvB tabOk rfl rfl rfl rfl rfl rfl (run_l tabOk ?_); conv => whnf) | (refine wl_rem rfl rfl rfl rfl rfl rfl (by omega) (by omega) (fun r hr hr0 hr1 hr2 => run_l tabOk ?_); conv => whnf) | (refine wl_quo rfl rfl rfl rfl rfl rfl (by omega) (by omega) (by simp only [inK]; omega) (run_l tabOk ?_); conv => whnf) | (refine wl_mul rfl rfl rfl rfl rfl rfl (by omega) (by omega) (run_l tabOk ?_); conv => whnf) | (refine gs_dt (by first | assumption | omega) ?_; conv => whnf) | (refine gs_df (by first | assumption | omega) ?_; conv => whnf) | (refine gs_t (by assumption) ?_; conv => whnf) | (refine gs_f (by assumption) ?_; conv => whnf) | (refine gs_d (fun hg => ?_) (fun hg => ?_) <;> conv => whnf) | (refine gs_n (fun hg => ?_) (fun hg => ?_) <;> conv => whnf) | (refine gs_nb (fun hg => ?_) (fun hg => ?_) <;> conv => whnf) | (refine gs_b (fun hg => ?_) (fun hg => ?_) <;> conv => whnf) | refine fin1 rfl rfl ?_))
    refine wl_C fn51 (refStep xs ys M rb rb.length w1.heap.size A A1 A2 c c1 c2 w wk hMk hwk hB.size h1 h2 hgc hgx hnc) rfl rfl rfl rfl rfl rfl rfl ?_
    rintro _ wm ⟨M2, b, rfl, hM2, hK2, hT⟩
    refine ⟨_, rfl, run_l tabOk ?_⟩
    conv => whnf
    (repeat' (first | (refine wl_add rfl rfl rfl rfl rfl rfl (by omega) (by omega) (run_l tabOk ?_); conv => whnf) | (refine wl_sub rfl rfl rfl rfl rfl rfl (by omega) (by omega) (run_l tabOk ?_); conv => whnf) | (refine wl_cvA tabOk rfl rfl rfl (by simp only [inK]; omega) rfl rfl rfl (run_l tabOk ?_); conv => whnf) | (refine wl_cvB tabOk rfl rfl rfl rfl rfl rfl (run_l tabOk ?_); conv => whnf) | (refine wl_rem rfl rfl rfl rfl rfl rfl (by omega) (by omega) (fun r hr hr0 hr1 hr2 => run_l tabOk ?_); conv => whnf) | (refine wl_quo rfl rfl rfl rfl rfl rfl (by omega) (by omega) (by simp only [inK]; omega) (run_l tabOk ?_); conv => whnf) | (refine wl_mul rfl rfl rfl rfl rfl rfl (by omega) (by omega) (run_l tabOk ?_); conv => whnf) | (refine gs_dt (by first | assumption | omega) ?_; conv => whnf) | (refine gs_df (by first | assumption | omega) ?_; conv => whnf) | (refine gs_t (by assumption) ?_; conv => whnf) | (refine gs_f (by assumption) ?_; conv => whnf) | (refine gs_d (fun hg => ?_) (fun hg => ?_) <;> conv => whnf) | (refine gs_n (fun hg => ?_) (fun hg => ?_) <;> conv => whnf) | (refine gs_nb (fun hg => ?_) (fun hg => ?_) <;> conv => whnf) | (refine gs_b (fun hg => ?_) (fun hg => ?_) <;> conv => whnf) | refine fin1 rfl rfl ?_))
    · have hbt : b = true := by assumption
      subst hbt
      have hlt := cnt_lt hMk.sh hM2.sh hT.le (hT.yes rfl)
      exact ⟨(i + 1, M2), ⟨rfl, rfl, rfl, trivial⟩, ⟨by simp only; omega, hM2, hKk.trans hK2, fun N hN => hT.least N (hleast N hN) hN⟩, by simp only; omega⟩
    · have hbf : b = false := by assumption
      subst hbf
      have hno := hT.no rfl
      have hMe : M2 = M := hno.1
      subst hMe
      have hIL : IsLeast ⟨rb.length, xs, ys⟩ M2 := ⟨by simpa using hM2.sh, hno.2, hleast⟩
      have hwm : Below w.heap.size w wm := hK2.low hMk hwk hB.size
      have hbm := hK2.blk hbk hr1
      clear hleast hKk hK2 hT hno hMk hwk hbk hRM hM hBr
      -- the lists
      refine lp_loop tabOk (X := Nat × Option Addr × Nat × List Nat) (fun y => [(1, .pointer (some ⟨g1, 0, none⟩)), (3, .slice A rb.length c), (6, .slice y.2.1 y.1 y.2.2.1), (7, .int .i64 y.1)])
        (fun y wo => y.1 ≤ rb.length ∧ Below wm.heap.size wm wo ∧ GRow 1 dInts 46 wm.heap.size wo (.slice y.2.1 y.1 y.2.2.1) ((ptsOf M2).take y.1) y.2.2.2) (fun y => rb.length - y.1) (0, none, 0, []) ⟨rfl, rfl, rfl, rfl, trivial⟩ ⟨by simp, Below.refl _ _, GRow.nil ..⟩ ?_
      rintro ⟨v, D, dc, bs⟩ G3 wo ⟨hv, hBo, hGo⟩
      simp only at hv hBo hGo
      conv => whnf
      have hbo := blk_up hBo hbm
      have hpl : (ptsOf M2).length = rb.length := by simp [ptsOf, hM2.sh.rows]
      by_cases hvl : v < rb.length
      · (repeat' (first | (refine wl_Lg tabOk hbo rfl rfl rfl rfl rfl rfl rfl (run_l tabOk ?_); conv => whnf) | (refine wl_add rfl rfl rfl rfl rfl rfl (by omega) (by omega) (run_l tabOk ?_); conv => whnf) | (refine wl_sub rfl rfl rfl rfl rfl rfl (by omega) (by omega) (run_l tabOk ?_); conv => whnf) | (refine wl_cvA tabOk rfl rfl rfl (by simp only [inK]; omega) rfl rfl rfl (run_l tabOk ?_); conv => whnf) | (refine wl_cvB tabOk rfl rfl rfl rfl rfl rfl (run_l tabOk ?_); conv => whnf) | (refine wl_rem rfl rfl rfl rfl rfl rfl (by omega) (by omega) (fun r hr hr0 hr1 hr2 => run_l tabOk ?_); conv => whnf) | (refine wl_quo rfl rfl rfl rfl rfl rfl (by omega) (by omega) (by simp only [inK]; omega) (run_l tabOk ?_); conv => whnf) | (refine wl_mul rfl rfl rfl rfl rfl rfl (by omega) (by omega) (run_l tabOk ?_); conv => whnf) | (refine gs_dt (by first | assumption | omega) ?_; conv => whnf) | (refine gs_df (by first | assumption | omega) ?_; conv => whnf) | (refine gs_t (by assumption) ?_; conv => whnf) | (refine gs_f (by assumption) ?_; conv => whnf) | (refine gs_d (fun hg => ?_) (fun hg => ?_) <;> conv => whnf) | (refine gs_n (fun hg => ?_) (fun hg => ?_) <;> conv => whnf) | (refine gs_nb (fun hg => ?_) (fun hg => ?_) <;> conv => whnf) | (refine gs_b (fun hg => ?_) (fun hg => ?_) <;> conv => whnf) | refine fin1 rfl rfl ?_))
        refine lp_loop tabOk (X := Nat × Option Addr × Nat × Nat) (fun y => [(1, .pointer (some ⟨g1, 0, none⟩)), (3, .slice A rb.length c), (6, .slice D v dc), (7, .int .i64 v), (8, .slice y.2.1 y.2.2.2 y.2.2.1), (9, .int .i64 y.1)])
          (fun y wp => y.1 ≤ xs.length ∧ Below wo.heap.size wo wp ∧ (rowTo M2[v]! y.1).length = y.2.2.2 ∧ GInts wo.heap.size wp (.slice y.2.1 y.2.2.2 y.2.2.1) (rowTo M2[v]! y.1)) (fun y => xs.length - y.1) (0, none, 0, 0) ⟨rfl, rfl, rfl, rfl, rfl, rfl, trivial⟩ ⟨by simp, Below.refl _ _, rfl, GRow.nil ..⟩ ?_
        rintro ⟨k, E, ec, el⟩ G4 wp ⟨hk, hBp, hel, hIp⟩
        simp only at hk hBp hel hIp
        conv => whnf
        have hbp := blk_up hBp hbo
        have hBmp := hBo.trans (hBp.mono hBo.size)
        by_cases hkl : k < xs.length
        · obtain ⟨ad, rfl, hcv⟩ := (hM2.up hBmp).cells hvl
          have hbit := (hM2.up hBmp).bit hvl hkl
          have hnx := rowTo_next M2[v]! k
          have hlen := rowTo_len M2[v]! k
          (repeat' (first | (refine wl_Lg tabOk hbp rfl rfl rfl rfl rfl rfl rfl (run_l tabOk ?_); conv => whnf) | (refine wl_L tabOk rfl rfl rfl rfl rfl rfl hcv (run_l tabOk ?_); conv => whnf) | (refine wl_L tabOk rfl rfl rfl rfl rfl rfl hbit (run_l tabOk ?_); conv => whnf) | (refine wl_Xn tabOk 84 1 rfl rfl rfl rfl rfl rfl rfl (by omega) (run_l tabOk ?_); conv => whnf) | (refine wl_Xn tabOk 4 1 rfl rfl rfl rfl rfl rfl rfl (by omega) (run_l tabOk ?_); conv => whnf) | (refine wl_add rfl rfl rfl rfl rfl rfl (by omega) (by omega) (run_l tabOk ?_); conv => whnf) | (refine wl_sub rfl rfl rfl rfl rfl rfl (by omega) (by omega) (run_l tabOk ?_); conv => whnf) | (refine wl_cvA tabOk rfl rfl rfl (by simp only [inK]; omega) rfl rfl rfl (run_l tabOk ?_); conv => whnf) | (refine wl_cvB tabOk rfl rfl rfl rfl rfl rfl (run_l tabOk ?_); conv => whnf) | (refine wl_rem rfl rfl rfl rfl rfl rfl (by omega) (by omega) (fun r hr hr0 hr1 hr2 => run_l tabOk ?_); conv => whnf) | (refine wl_quo rfl rfl rfl rfl rfl rfl (by omega) (by omega) (by simp only [inK]; omega) (run_l tabOk ?_); conv => whnf) | (refine wl_mul rfl rfl rfl rfl rfl rfl (by omega) (by omega) (run_l tabOk ?_); conv => whnf) | (refine gs_dt (by first | assumption | omega) ?_; conv => whnf) | (refine gs_df (by first | assumption | omega) ?_; conv => whnf) | (refine gs_t (by assumption) ?_; conv => whnf) | (refine gs_f (by assumption) ?_; conv => whnf) | (refine gs_d (fun hg => ?_) (fun hg => ?_) <;> conv => whnf) | (refine gs_n (fun hg => ?_) (fun hg => ?_) <;> conv => whnf) | (refine gs_nb (fun hg => ?_) (fun hg => ?_) <;> conv => whnf) | (refine gs_b (fun hg => ?_) (fun hg => ?_) <;> conv => whnf) | refine fin1 rfl rfl ?_))
          · have hin : mg M2 v k = true := by assumption
            rw [if_pos (show (M2[v]!)[k]! = true from hin)] at hnx
            subst hel
            obtain ⟨flat, hown, helm⟩ := hIp.own
            refine wl_bs tabOk 3 1 rfl rfl rfl rfl rfl rfl rfl rfl rfl rfl ?_
            intro gn u1 hn
            refine run_l tabOk ?_
            conv => whnf
            refine wl_ap tabOk 3 1 8 (hown.kept (grown_of hn.below) (Classical.em _)) hn.blk rfl rfl rfl rfl rfl rfl rfl rfl rfl rfl rfl rfl (by simp [Value.oneCell']) (by omega) (by omega) (by have := hn.size; have := hBp.size; omega) ?_
            intro D2 dc2 u2 hown2 hg2 hob2
            have hpush := gints_push (hIp.below hn.below) (fun w' _ => helm w' (by simp)) hown2 hg2 hob2 (y := (k : Int)) (by omega)
            have hgk : wp.grownBy u2 (Value.slice E (rowTo M2[v]! k).length ec).ownBlock := grown_trans (grown_of hn.below) hg2
            have hB2 : Below wo.heap.size wo u2 := hBp.grown hgk hBp.size (fun k e => (hIp.olt k e).1)
            refine run_l tabOk ?_
            conv => whnf
            (repeat' (first | (refine wl_add rfl rfl rfl rfl rfl rfl (by omega) (by omega) (run_l tabOk ?_); conv => whnf) | (refine wl_sub rfl rfl rfl rfl rfl rfl (by omega) (by omega) (run_l tabOk ?_); conv => whnf) | (refine wl_cvA tabOk rfl rfl rfl (by simp only [inK]; omega) rfl rfl rfl (run_l tabOk ?_); conv => whnf) | (refine wl_cvB tabOk rfl rfl rfl rfl rfl rfl (run_l tabOk ?_); conv => whnf) | (refine wl_rem rfl rfl rfl rfl rfl rfl (by omega) (by omega) (fun r hr hr0 hr1 hr2 => run_l tabOk ?_); conv => whnf) | (refine wl_quo rfl rfl rfl rfl rfl rfl (by omega) (by omega) (by simp only [inK]; omega) (run_l tabOk ?_); conv => whnf) | (refine wl_mul rfl rfl rfl rfl rfl rfl (by omega) (by omega) (run_l tabOk ?_); conv => whnf) | (refine gs_dt (by first | assumption | omega) ?_; conv => whnf) | (refine gs_df (by first | assumption | omega) ?_; conv => whnf) | (refine gs_t (by assumption) ?_; conv => whnf) | (refine gs_f (by assumption) ?_; conv => whnf) | (refine gs_d (fun hg => ?_) (fun hg => ?_) <;> conv => whnf) | (refine gs_n (fun hg => ?_) (fun hg => ?_) <;> conv => whnf) | (refine gs_nb (fun hg => ?_) (fun hg => ?_) <;> conv => whnf) | (refine gs_b (fun hg => ?_) (fun hg => ?_) <;> conv => whnf) | refine fin1 rfl rfl ?_))
            exact ⟨(k + 1, D2, dc2, (rowTo M2[v]! k).length + 1), ⟨rfl, rfl, rfl, rfl, rfl, rfl, trivial⟩, ⟨by simp only; omega, hB2, by simp only; rw [hnx]; simp, by simp only; rw [hnx]; exact hpush⟩, by simp only; omega⟩
          · have hin : mg M2 v k = false := by assumption
            rw [if_neg (show ¬ (M2[v]!)[k]! = true from fun h => by rw [show (M2[v]!)[k]! = false from hin] at h; cases h)] at hnx
            exact ⟨(k + 1, E, ec, el), ⟨rfl, rfl, rfl, rfl, rfl, rfl, trivial⟩, ⟨by simp only; omega, hBp, by simp only; rw [hnx]; exact hel, by simp only; rw [hnx]; exact hIp⟩, by simp only; omega⟩
        · have hkx : k = xs.length := by omega
          subst hkx
          have hpv : rowTo M2[v]! xs.length = (ptsOf M2)[v]! := by
            rw [getElem!_pos (ptsOf M2) v (by rw [hpl]; exact hvl)]
            have e : rowTo M2[v]! xs.length = rowPts M2[v]! := by rw [rowPts, hM2.sh.cols v hvl]
            rw [e, getElem!_pos M2 v (by rw [hM2.sh.rows]; exact hvl)]
            simp [ptsOf]
          rw [hpv] at hel hIp
          subst hel
          have htl : ((ptsOf M2).take v).length = v := by simp [hpl]; omega
          have htk : (ptsOf M2).take (v + 1) = (ptsOf M2).take v ++ [(ptsOf M2)[v]!] := by
            rw [getElem!_pos (ptsOf M2) v (by rw [hpl]; exact hvl)]
            simp
          (repeat' (first | (refine wl_Lg tabOk hbp rfl rfl rfl rfl rfl rfl rfl (run_l tabOk ?_); conv => whnf) | (refine wl_add rfl rfl rfl rfl rfl rfl (by omega) (by omega) (run_l tabOk ?_); conv => whnf) | (refine wl_sub rfl rfl rfl rfl rfl rfl (by omega) (by omega) (run_l tabOk ?_); conv => whnf) | (refine wl_cvA tabOk rfl rfl rfl (by simp only [inK]; omega) rfl rfl rfl (run_l tabOk ?_); conv => whnf) | (refine wl_cvB tabOk rfl rfl rfl rfl rfl rfl (run_l tabOk ?_); conv => whnf) | (refine wl_rem rfl rfl rfl rfl rfl rfl (by omega) (by omega) (fun r hr hr0 hr1 hr2 => run_l tabOk ?_); conv => whnf) | (refine wl_quo rfl rfl rfl rfl rfl rfl (by omega) (by omega) (by simp only [inK]; omega) (run_l tabOk ?_); conv => whnf) | (refine wl_mul rfl rfl rfl rfl rfl rfl (by omega) (by omega) (run_l tabOk ?_); conv => whnf) | (refine gs_dt (by first | assumption | omega) ?_; conv => whnf) | (refine gs_df (by first | assumption | omega) ?_; conv => whnf) | (refine gs_t (by assumption) ?_; conv => whnf) | (refine gs_f (by assumption) ?_; conv => whnf) | (refine gs_d (fun hg => ?_) (fun hg => ?_) <;> conv => whnf) | (refine gs_n (fun hg => ?_) (fun hg => ?_) <;> conv => whnf) | (refine gs_nb (fun hg => ?_) (fun hg => ?_) <;> conv => whnf) | (refine gs_b (fun hg => ?_) (fun hg => ?_) <;> conv => whnf) | refine fin1 rfl rfl ?_))
          refine wl_bs tabOk 46 1 rfl rfl rfl rfl rfl rfl rfl rfl rfl rfl ?_
          intro gn u1 hn
          have hGu := (hGo.below hBp).below hn.below
          obtain ⟨flat, hown, helm⟩ := hGu.own
          rw [htl] at hown
          refine run_l tabOk ?_
          conv => whnf
          refine wl_ap tabOk 46 1 24 hown hn.blk rfl rfl rfl rfl rfl rfl rfl rfl rfl rfl rfl rfl (by simp [Value.oneCell']) (by omega) (by omega) (by have := hn.size; have := hBmp.size; omega) ?_
          intro D2 dc2 u2 hown2 hg2 hob2
          have hpush := rows_push (b' := wo.heap.size) hGu helm (by rw [htl]; exact hown2) hg2 hob2 (hIp.below hn.below) hBo.size (fun k hk e => by have := (hIp.olt k hk).1; have := (hGo.olt k e.symm).2; omega)
          have hgk : wp.grownBy u2 (Value.slice D v dc).ownBlock := grown_trans (grown_of hn.below) hg2
          have hB2 : Below wm.heap.size wm u2 := hBmp.grown hgk hBmp.size (fun k e => (hGo.olt k e).1)
          refine run_l tabOk ?_
          conv => whnf
          (repeat' (first | (refine wl_add rfl rfl rfl rfl rfl rfl (by omega) (by omega) (run_l tabOk ?_); conv => whnf) | (refine wl_sub rfl rfl rfl rfl rfl rfl (by omega) (by omega) (run_l tabOk ?_); conv => whnf) | (refine wl_cvA tabOk rfl rfl rfl (by simp only [inK]; omega) rfl rfl rfl (run_l tabOk ?_); conv => whnf) | (refine wl_cvB tabOk rfl rfl rfl rfl rfl rfl (run_l tabOk ?_); conv => whnf) | (refine wl_rem rfl rfl rfl rfl rfl rfl (by omega) (by omega) (fun r hr hr0 hr1 hr2 => run_l tabOk ?_); conv => whnf) | (refine wl_quo rfl rfl rfl rfl rfl rfl (by omega) (by omega) (by simp only [inK]; omega) (run_l tabOk ?_); conv => whnf) | (refine wl_mul rfl rfl rfl rfl rfl rfl (by omega) (by omega) (run_l tabOk ?_); conv => whnf) | (refine gs_dt (by first | assumption | omega) ?_; conv => whnf) | (refine gs_df (by first | assumption | omega) ?_; conv => whnf) | (refine gs_t (by assumption) ?_; conv => whnf) | (refine gs_f (by assumption) ?_; conv => whnf) | (refine gs_d (fun hg => ?_) (fun hg => ?_) <;> conv => whnf) | (refine gs_n (fun hg => ?_) (fun hg => ?_) <;> conv => whnf) | (refine gs_nb (fun hg => ?_) (fun hg => ?_) <;> conv => whnf) | (refine gs_b (fun hg => ?_) (fun hg => ?_) <;> conv => whnf) | refine fin1 rfl rfl ?_))
          exact ⟨(v + 1, D2, dc2, _), ⟨rfl, rfl, rfl, rfl, trivial⟩, ⟨by simp only; omega, hB2, by simp only; rw [htk]; exact hpush⟩, by simp only; omega⟩
      · have hvn : v = rb.length := by omega
        subst hvn
        (repeat' (first | (refine wl_Lg tabOk hbo rfl rfl rfl rfl rfl rfl rfl (run_l tabOk ?_); conv => whnf) | (refine wl_add rfl rfl rfl rfl rfl rfl (by omega) (by omega) (run_l tabOk ?_); conv => whnf) | (refine wl_sub rfl rfl rfl rfl rfl rfl (by omega) (by omega) (run_l tabOk ?_); conv => whnf) | (refine wl_cvA tabOk rfl rfl rfl (by simp only [inK]; omega) rfl rfl rfl (run_l tabOk ?_); conv => whnf) | (refine wl_cvB tabOk rfl rfl rfl rfl rfl rfl (run_l tabOk ?_); conv => whnf) | (refine wl_rem rfl rfl rfl rfl rfl rfl (by omega) (by omega) (fun r hr hr0 hr1 hr2 => run_l tabOk ?_); conv => whnf) | (refine wl_quo rfl rfl rfl rfl rfl rfl (by omega) (by omega) (by simp only [inK]; omega) (run_l tabOk ?_); conv => whnf) | (refine wl_mul rfl rfl rfl rfl rfl rfl (by omega) (by omega) (run_l tabOk ?_); conv => whnf) | (refine gs_dt (by first | assumption | omega) ?_; conv => whnf) | (refine gs_df (by first | assumption | omega) ?_; conv => whnf) | (refine gs_t (by assumption) ?_; conv => whnf) | (refine gs_f (by assumption) ?_; conv => whnf) | (refine gs_d (fun hg => ?_) (fun hg => ?_) <;> conv => whnf) | (refine gs_n (fun hg => ?_) (fun hg => ?_) <;> conv => whnf) | (refine gs_nb (fun hg => ?_) (fun hg => ?_) <;> conv => whnf) | (refine gs_b (fun hg => ?_) (fun hg => ?_) <;> conv => whnf) | refine fin1 rfl rfl ?_))
        rw [List.take_of_length_le (by omega)] at hGo
        obtain ⟨_, hcap, hrr⟩ := hGo.rowAt
        exact ⟨M2, D, dc, rfl, hIL, hrr, by omega, bup hwm hBo⟩
end Go.Proofs.YtkjbkalakafnlaaDoor
