/- Several texts of one claim in one file: LE23 KT16 EX2 EX3 E10. -/
import Derived.Test.YtjggjhgbobmkhaaA6
import Derived.Test.YtjggjhgbobmkhaaA7
import Derived.Test.YtjggjhgbobmkhaaA5
import Derived.Laws.Slices
import Derived.Laws.CopyRow
import Derived.Laws.Bits64b
import Derived.Laws.Shifts
import Derived.Lib.AppendZerosOnto
/- The reference's Least: the least map. -/
namespace Go.Proofs.Ytjggjhgbobmkhaa
open Go.RowKit
set_option linter.unusedVariables false
set_option linter.unusedSimpArgs false
set_option maxRecDepth 100000
set_option maxHeartbeats 8000000 in
theorem refLeast (n : Nat) (xs : List Cell) (ys : List Con) (A1 A2 : Option Addr) (c1 c2 : Nat) (w : World) (h1 : RCells w A1 xs) (h2 : RCons w A2 ys) (hright : rightB ⟨n, xs, ys⟩ = true) :
    Calls Try.prog 31 #[.agg #[.int .i64 n, .slice A1 xs.length c1, .slice A2 ys.length c2]] w fun e w' => ∃ M A cap, e = .returned (.slice A n cap) ∧ IsLeast ⟨n, xs, ys⟩ M ∧ RRows w' A (ptsOf M) ∧ n ≤ cap ∧ Below w.heap.size w w' := by
  have hm2 := h2.1
  obtain ⟨hn, hnc, hny, hgx, hgc⟩ := right_parts hright
  have hmul : n * xs.length ≤ 16384 * 16384 := Nat.mul_le_mul hn hnc
  refine enterR (args := [.agg #[.int .i64 n, .slice A1 xs.length c1, .slice A2 ys.length c2]]) tabOk Try.func31 rfl Try.ntmps31 rfl ?_; conv => whnf
  refine wl_box rfl rfl rfl rfl rfl rfl ?_
  intro g1 w1 hn1
  have hb := hn1.blk
  have hB := hn1.below
  refine run_l tabOk ?_
  conv => whnf
  (repeat' (first | (refine wl_Lg tabOk hb rfl rfl rfl rfl rfl rfl rfl (run_l tabOk ?_); conv => whnf) | ((first | refine wl_add rfl rfl rfl rfl rfl rfl (by omega) (by omega) (run_l tabOk ?_) | refine wl_cvA tabOk rfl rfl rfl (by simp only [inK]; omega) rfl rfl rfl (run_l tabOk ?_) | refine wl_rem rfl rfl rfl rfl rfl rfl (by omega) (by omega) (fun r hr hr0 hr1 hr2 => run_l tabOk ?_) | refine wl_quo rfl rfl rfl rfl rfl rfl (by omega) (by omega) (by simp only [inK]; omega) (run_l tabOk ?_) | refine wl_mul rfl rfl rfl rfl rfl rfl (by omega) (by omega) (run_l tabOk ?_) | refine gs_dt (by first | assumption | omega) ?_ | refine gs_df (by first | assumption | omega) ?_ | refine gs_b (fun hg => ?_) (fun hg => ?_)) <;> conv => whnf) | refine fin1 rfl rfl ?_))
  -- the rows
  refine lp_loop tabOk (X := Nat × Option Addr × Nat × List Nat) (fun y => [(1, .pointer (some ⟨g1, 0, none⟩)), (3, .slice y.2.1 y.1 y.2.2.1), (4, .int .i64 y.1)])
    (fun y wr => y.1 ≤ n ∧ Below w.heap.size w wr ∧ w1.heap.size ≤ wr.heap.size ∧ wr.heap[g1]? = some (.cells #[.int .i64 n, .slice A1 xs.length c1, .slice A2 ys.length c2] 29 (0, 0)) ∧ y.2.2.2.length = y.1 ∧ RM w1.heap.size wr (.slice y.2.1 y.1 y.2.2.1) y.2.2.2 xs.length (zeroM y.1 xs.length)) (fun y => n - y.1) (0, none, 0, []) ⟨rfl, rfl, rfl, trivial⟩ ⟨by simp, hB, Nat.le_refl _, hb, rfl, RM.nil ..⟩ ?_
  rintro ⟨v, A, c, rb⟩ G wr ⟨hv, hBr, hsz, hb, hrl, hRM⟩
  simp only at hv hBr hsz hb hrl hRM
  subst hrl
  conv => whnf
  by_cases hvl : rb.length < n
  · (repeat' (first | (refine wl_Lg tabOk hb rfl rfl rfl rfl rfl rfl rfl (run_l tabOk ?_); conv => whnf) | ((first | refine wl_add rfl rfl rfl rfl rfl rfl (by omega) (by omega) (run_l tabOk ?_) | refine wl_cvA tabOk rfl rfl rfl (by simp only [inK]; omega) rfl rfl rfl (run_l tabOk ?_) | refine wl_rem rfl rfl rfl rfl rfl rfl (by omega) (by omega) (fun r hr hr0 hr1 hr2 => run_l tabOk ?_) | refine wl_quo rfl rfl rfl rfl rfl rfl (by omega) (by omega) (by simp only [inK]; omega) (run_l tabOk ?_) | refine wl_mul rfl rfl rfl rfl rfl rfl (by omega) (by omega) (run_l tabOk ?_) | refine gs_dt (by first | assumption | omega) ?_ | refine gs_df (by first | assumption | omega) ?_ | refine gs_b (fun hg => ?_) (fun hg => ?_)) <;> conv => whnf) | refine fin1 rfl rfl ?_))
    refine wl_mk (m := xs.length) tabOk 4 1 1 rfl rfl rfl rfl rfl rfl rfl rfl rfl (by omega) (by omega) ?_
    intro gr w3 hn3
    refine run_l tabOk ?_
    conv => whnf
    refine wl_bs tabOk 34 1 rfl rfl rfl rfl rfl rfl rfl rfl rfl rfl ?_
    intro gn w4 hn4
    refine run_l tabOk ?_
    conv => whnf
    have hB4 : Below wr.heap.size wr w4 := hn4.up hn3.below
    have hRM4 := hRM.up hB4
    obtain ⟨flat, hown, hel⟩ := hRM4.row.own
    refine wl_ap tabOk 34 1 24 hown hn4.blk rfl rfl rfl rfl rfl rfl rfl rfl rfl rfl rfl rfl (by simp [Value.oneCell']) (by omega) (by omega) (by have := hB4.size; omega) ?_
    intro D dc w5 hown5 hg5 hob5
    have hgr : gr = wr.heap.size := hn3.at_
    have hx := hRM4.snoc (gr := gr) (r := List.replicate xs.length false) hel hown5 hg5 hob5 (by
      have := hn4.old hn3.blk
      have e2 : vb (List.replicate xs.length false) = (List.replicate xs.length [Value.bool false]).flatten := by simp [vb]
      rw [e2]; exact this) (by simp) (by omega) (fun e => by have := (hRM.row.olt gr e.symm).2; omega) (fun hm => by have := (hRM.lt gr hm).2; omega)
    have hB5 : Below w.heap.size w w5 := (hBr.trans (hB4.mono hBr.size)).grown hg5 (by have := hBr.size; have := hB4.size; omega) (fun k hk => by have := (hRM4.row.olt k hk).1; have := hB.size; omega)
    have hb5 := (hg5.block g1 (by have := blk_lt (blk_up hB4 hb); omega) (fun e => by have := (hRM4.row.olt g1 e.symm).1; have := hn1.at_; have := hn1.size; omega)).trans (blk_up hB4 hb)
    refine run_l tabOk ?_
    conv => whnf
    (repeat' (first | ((first | refine wl_add rfl rfl rfl rfl rfl rfl (by omega) (by omega) (run_l tabOk ?_) | refine wl_cvA tabOk rfl rfl rfl (by simp only [inK]; omega) rfl rfl rfl (run_l tabOk ?_) | refine wl_rem rfl rfl rfl rfl rfl rfl (by omega) (by omega) (fun r hr hr0 hr1 hr2 => run_l tabOk ?_) | refine wl_quo rfl rfl rfl rfl rfl rfl (by omega) (by omega) (by simp only [inK]; omega) (run_l tabOk ?_) | refine wl_mul rfl rfl rfl rfl rfl rfl (by omega) (by omega) (run_l tabOk ?_) | refine gs_dt (by first | assumption | omega) ?_ | refine gs_df (by first | assumption | omega) ?_ | refine gs_b (fun hg => ?_) (fun hg => ?_)) <;> conv => whnf) | refine fin1 rfl rfl ?_))
    exact ⟨(rb.length + 1, D, dc, rb ++ [gr]), ⟨rfl, rfl, rfl, trivial⟩, ⟨by simp only; omega, hB5, show w1.heap.size ≤ w5.heap.size by have := hg5.size; have := hB4.size; omega, hb5, by simp, by
      have e : zeroM (rb.length + 1) xs.length = zeroM rb.length xs.length ++ [List.replicate xs.length false] := by simp [zeroM, List.replicate_succ']
      simp only
      rw [e]
      exact hx⟩, by simp only; omega⟩
  · have hvn : rb.length = n := by omega
    subst hvn
    have hM := hRM.bmat
    have hr1 : g1 ∉ rb := fun hm => by have := (hM.ge g1 hm).1; have := hn1.at_; have := hn1.size; omega
    clear hn1
    obtain ⟨sz, hsz2⟩ : ∃ sz, sz = rb.length * xs.length := ⟨_, rfl⟩
    have hszI : (rb.length : Int) * (xs.length : Int) = (sz : Int) := by rw [hsz2]; simp
    rw [← hsz2] at hmul
    (repeat' (first | (refine wl_Lg tabOk hb rfl rfl rfl rfl rfl rfl rfl (run_l tabOk ?_); conv => whnf) | ((first | refine wl_add rfl rfl rfl rfl rfl rfl (by omega) (by omega) (run_l tabOk ?_) | refine wl_cvA tabOk rfl rfl rfl (by simp only [inK]; omega) rfl rfl rfl (run_l tabOk ?_) | refine wl_rem rfl rfl rfl rfl rfl rfl (by omega) (by omega) (fun r hr hr0 hr1 hr2 => run_l tabOk ?_) | refine wl_quo rfl rfl rfl rfl rfl rfl (by omega) (by omega) (by simp only [inK]; omega) (run_l tabOk ?_) | refine wl_mul rfl rfl rfl rfl rfl rfl (by omega) (by omega) (run_l tabOk ?_) | refine gs_dt (by first | assumption | omega) ?_ | refine gs_df (by first | assumption | omega) ?_ | refine gs_b (fun hg => ?_) (fun hg => ?_)) <;> conv => whnf) | refine fin1 rfl rfl ?_))
    refine lp_loop tabOk (X := Nat × Mat) (fun y => [(1, .pointer (some ⟨g1, 0, none⟩)), (3, .slice A rb.length c), (5, .int .i64 y.1)])
      (fun y wk => y.1 ≤ cnt y.2 ∧ BMat w1.heap.size wk A y.2 rb rb.length xs.length ∧ Keeps rb wr wk ∧ (∀ N, ClosedM ⟨rb.length, xs, ys⟩ N → LeM y.2 N)) (fun y => sz + 2 - y.1) (0, zeroM rb.length xs.length) ⟨rfl, rfl, rfl, trivial⟩ ⟨by simp, hM, Keeps.refl _ _, fun N _ => zeroM_le _ _ N⟩ ?_
    rintro ⟨i, M⟩ G2 wk ⟨hi, hMk, hKk, hleast⟩
    simp only at hi hMk hKk hleast
    have hcl := cnt_le hMk.sh
    rw [← hsz2] at hcl
    have hbk := hKk.blk hb hr1
    have hwk : Below w.heap.size w wk := hKk.low hM hBr hB.size
    conv => whnf
    (repeat' (first | (refine wl_Lg tabOk hbk rfl rfl rfl rfl rfl rfl rfl (run_l tabOk ?_); conv => whnf) | (refine wl_Lag tabOk hbk rfl rfl rfl rfl rfl rfl (run_l tabOk ?_); conv => whnf) | ((first | refine wl_add rfl rfl rfl rfl rfl rfl (by omega) (by omega) (run_l tabOk ?_) | refine wl_cvA tabOk rfl rfl rfl (by simp only [inK]; omega) rfl rfl rfl (run_l tabOk ?_) | refine wl_rem rfl rfl rfl rfl rfl rfl (by omega) (by omega) (fun r hr hr0 hr1 hr2 => run_l tabOk ?_) | refine wl_quo rfl rfl rfl rfl rfl rfl (by omega) (by omega) (by simp only [inK]; omega) (run_l tabOk ?_) | refine wl_mul rfl rfl rfl rfl rfl rfl (by omega) (by omega) (run_l tabOk ?_) | refine gs_dt (by first | assumption | omega) ?_ | refine gs_df (by first | assumption | omega) ?_ | refine gs_b (fun hg => ?_) (fun hg => ?_)) <;> conv => whnf) | refine fin1 rfl rfl ?_))
    refine wl_C fn46 (refStep xs ys M rb rb.length w1.heap.size A A1 A2 c c1 c2 w wk hMk hwk hB.size h1 h2 hgc hgx hnc) rfl rfl rfl rfl rfl rfl rfl ?_
    rintro _ wm ⟨M2, b, rfl, hM2, hK2, hT⟩
    refine ⟨_, rfl, run_l tabOk ?_⟩
    conv => whnf
    (repeat' (first | ((first | refine wl_add rfl rfl rfl rfl rfl rfl (by omega) (by omega) (run_l tabOk ?_) | refine wl_cvA tabOk rfl rfl rfl (by simp only [inK]; omega) rfl rfl rfl (run_l tabOk ?_) | refine wl_rem rfl rfl rfl rfl rfl rfl (by omega) (by omega) (fun r hr hr0 hr1 hr2 => run_l tabOk ?_) | refine wl_quo rfl rfl rfl rfl rfl rfl (by omega) (by omega) (by simp only [inK]; omega) (run_l tabOk ?_) | refine wl_mul rfl rfl rfl rfl rfl rfl (by omega) (by omega) (run_l tabOk ?_) | refine gs_dt (by first | assumption | omega) ?_ | refine gs_df (by first | assumption | omega) ?_ | refine gs_b (fun hg => ?_) (fun hg => ?_)) <;> conv => whnf) | refine fin1 rfl rfl ?_))
    · have hbt : b = true := by assumption
      subst hbt
      have hlt := cnt_lt hMk.sh hM2.sh hT.le (hT.yes rfl)
      exact ⟨(i + 1, M2), ⟨rfl, rfl, rfl, trivial⟩, ⟨by simp only; omega, hM2, hKk.trans hK2, fun N hN => hT.least N (hleast N hN) hN⟩, by simp only; omega⟩
    · have hbf : b = false := by assumption
      subst hbf
      have hno := hT.no rfl
      have hMe : M2 = M := hno.1
      subst hMe
      have hIL : IsLeast ⟨rb.length, xs, ys⟩ M2 := ⟨by simpa using hM2.sh, hno.2, hleast⟩
      have hwm : Below w.heap.size w wm := hK2.low hMk hwk hB.size
      have hbm := hK2.blk hbk hr1
      clear hleast hKk hK2 hT hno hMk hwk hbk hRM hM hBr
      -- the lists
      refine lp_loop tabOk (X := Nat × Option Addr × Nat × List Nat) (fun y => [(1, .pointer (some ⟨g1, 0, none⟩)), (3, .slice A rb.length c), (6, .slice y.2.1 y.1 y.2.2.1), (7, .int .i64 y.1)])
        (fun y wo => y.1 ≤ rb.length ∧ Below wm.heap.size wm wo ∧ GRow 1 dInts 31 wm.heap.size wo (.slice y.2.1 y.1 y.2.2.1) ((ptsOf M2).take y.1) y.2.2.2) (fun y => rb.length - y.1) (0, none, 0, []) ⟨rfl, rfl, rfl, rfl, trivial⟩ ⟨by simp, Below.refl _ _, GRow.nil ..⟩ ?_
      rintro ⟨v, D, dc, bs⟩ G3 wo ⟨hv, hBo, hGo⟩
      simp only at hv hBo hGo
      conv => whnf
      have hbo := blk_up hBo hbm
      have hpl : (ptsOf M2).length = rb.length := by simp [ptsOf, hM2.sh.rows]
      by_cases hvl : v < rb.length
      · (repeat' (first | (refine wl_Lg tabOk hbo rfl rfl rfl rfl rfl rfl rfl (run_l tabOk ?_); conv => whnf) | ((first | refine wl_add rfl rfl rfl rfl rfl rfl (by omega) (by omega) (run_l tabOk ?_) | refine wl_cvA tabOk rfl rfl rfl (by simp only [inK]; omega) rfl rfl rfl (run_l tabOk ?_) | refine wl_rem rfl rfl rfl rfl rfl rfl (by omega) (by omega) (fun r hr hr0 hr1 hr2 => run_l tabOk ?_) | refine wl_quo rfl rfl rfl rfl rfl rfl (by omega) (by omega) (by simp only [inK]; omega) (run_l tabOk ?_) | refine wl_mul rfl rfl rfl rfl rfl rfl (by omega) (by omega) (run_l tabOk ?_) | refine gs_dt (by first | assumption | omega) ?_ | refine gs_df (by first | assumption | omega) ?_ | refine gs_b (fun hg => ?_) (fun hg => ?_)) <;> conv => whnf) | refine fin1 rfl rfl ?_))
        refine lp_loop tabOk (X := Nat × Option Addr × Nat × Nat) (fun y => [(1, .pointer (some ⟨g1, 0, none⟩)), (3, .slice A rb.length c), (6, .slice D v dc), (7, .int .i64 v), (8, .slice y.2.1 y.2.2.2 y.2.2.1), (9, .int .i64 y.1)])
          (fun y wp => y.1 ≤ xs.length ∧ Below wo.heap.size wo wp ∧ (rowTo M2[v]! y.1).length = y.2.2.2 ∧ GInts wo.heap.size wp (.slice y.2.1 y.2.2.2 y.2.2.1) (rowTo M2[v]! y.1)) (fun y => xs.length - y.1) (0, none, 0, 0) ⟨rfl, rfl, rfl, rfl, rfl, rfl, trivial⟩ ⟨by simp, Below.refl _ _, rfl, GRow.nil ..⟩ ?_
        rintro ⟨k, E, ec, el⟩ G4 wp ⟨hk, hBp, hel, hIp⟩
        simp only at hk hBp hel hIp
        conv => whnf
        have hbp := blk_up hBp hbo
        have hBmp := hBo.trans (hBp.mono hBo.size)
        by_cases hkl : k < xs.length
        · obtain ⟨ad, rfl, hcv⟩ := (hM2.up hBmp).cells hvl
          have hbit := (hM2.up hBmp).bit hvl hkl
          have hnx := rowTo_next M2[v]! k
          have hlen := rowTo_len M2[v]! k
          (repeat' (first | (refine wl_Lg tabOk hbp rfl rfl rfl rfl rfl rfl rfl (run_l tabOk ?_); conv => whnf) | (refine wl_L tabOk rfl rfl rfl rfl rfl rfl hcv (run_l tabOk ?_); conv => whnf) | (refine wl_L tabOk rfl rfl rfl rfl rfl rfl hbit (run_l tabOk ?_); conv => whnf) | (refine wl_Xn tabOk 34 1 rfl rfl rfl rfl rfl rfl rfl (by omega) (run_l tabOk ?_); conv => whnf) | (refine wl_Xn tabOk 4 1 rfl rfl rfl rfl rfl rfl rfl (by omega) (run_l tabOk ?_); conv => whnf) | ((first | refine wl_add rfl rfl rfl rfl rfl rfl (by omega) (by omega) (run_l tabOk ?_) | refine wl_cvA tabOk rfl rfl rfl (by simp only [inK]; omega) rfl rfl rfl (run_l tabOk ?_) | refine wl_rem rfl rfl rfl rfl rfl rfl (by omega) (by omega) (fun r hr hr0 hr1 hr2 => run_l tabOk ?_) | refine wl_quo rfl rfl rfl rfl rfl rfl (by omega) (by omega) (by simp only [inK]; omega) (run_l tabOk ?_) | refine wl_mul rfl rfl rfl rfl rfl rfl (by omega) (by omega) (run_l tabOk ?_) | refine gs_dt (by first | assumption | omega) ?_ | refine gs_df (by first | assumption | omega) ?_ | refine gs_b (fun hg => ?_) (fun hg => ?_)) <;> conv => whnf) | refine fin1 rfl rfl ?_))
          · have hin : mg M2 v k = true := by assumption
            rw [if_pos (show (M2[v]!)[k]! = true from hin)] at hnx
            subst hel
            obtain ⟨flat, hown, helm⟩ := hIp.own
            refine wl_bs tabOk 3 1 rfl rfl rfl rfl rfl rfl rfl rfl rfl rfl ?_
            intro gn u1 hn
            refine run_l tabOk ?_
            conv => whnf
            refine wl_ap tabOk 3 1 8 (hown.kept (grown_of hn.below) (Classical.em _)) hn.blk rfl rfl rfl rfl rfl rfl rfl rfl rfl rfl rfl rfl (by simp [Value.oneCell']) (by omega) (by omega) (by have := hn.size; have := hBp.size; omega) ?_
            intro D2 dc2 u2 hown2 hg2 hob2
            have hpush := gints_push (hIp.below hn.below) (fun w' _ => helm w' (by simp)) hown2 hg2 hob2 (y := (k : Int)) (by omega)
            have hgk : wp.grownBy u2 (Value.slice E (rowTo M2[v]! k).length ec).ownBlock := grown_trans (grown_of hn.below) hg2
            have hB2 : Below wo.heap.size wo u2 := hBp.grown hgk hBp.size (fun k e => (hIp.olt k e).1)
            refine run_l tabOk ?_
            conv => whnf
            (repeat' (first | ((first | refine wl_add rfl rfl rfl rfl rfl rfl (by omega) (by omega) (run_l tabOk ?_) | refine wl_cvA tabOk rfl rfl rfl (by simp only [inK]; omega) rfl rfl rfl (run_l tabOk ?_) | refine wl_rem rfl rfl rfl rfl rfl rfl (by omega) (by omega) (fun r hr hr0 hr1 hr2 => run_l tabOk ?_) | refine wl_quo rfl rfl rfl rfl rfl rfl (by omega) (by omega) (by simp only [inK]; omega) (run_l tabOk ?_) | refine wl_mul rfl rfl rfl rfl rfl rfl (by omega) (by omega) (run_l tabOk ?_) | refine gs_dt (by first | assumption | omega) ?_ | refine gs_df (by first | assumption | omega) ?_ | refine gs_b (fun hg => ?_) (fun hg => ?_)) <;> conv => whnf) | refine fin1 rfl rfl ?_))
            exact ⟨(k + 1, D2, dc2, (rowTo M2[v]! k).length + 1), ⟨rfl, rfl, rfl, rfl, rfl, rfl, trivial⟩, ⟨by simp only; omega, hB2, by simp only; rw [hnx]; simp, by simp only; rw [hnx]; exact hpush⟩, by simp only; omega⟩
          · have hin : mg M2 v k = false := by assumption
            rw [if_neg (show ¬ (M2[v]!)[k]! = true from fun h => by rw [show (M2[v]!)[k]! = false from hin] at h; cases h)] at hnx
            exact ⟨(k + 1, E, ec, el), ⟨rfl, rfl, rfl, rfl, rfl, rfl, trivial⟩, ⟨by simp only; omega, hBp, by simp only; rw [hnx]; exact hel, by simp only; rw [hnx]; exact hIp⟩, by simp only; omega⟩
        · have hkx : k = xs.length := by omega
          subst hkx
          have hpv : rowTo M2[v]! xs.length = (ptsOf M2)[v]! := by
            rw [getElem!_pos (ptsOf M2) v (by rw [hpl]; exact hvl)]
            have e : rowTo M2[v]! xs.length = rowPts M2[v]! := by rw [rowPts, hM2.sh.cols v hvl]
            rw [e, getElem!_pos M2 v (by rw [hM2.sh.rows]; exact hvl)]
            simp [ptsOf]
          rw [hpv] at hel hIp
          subst hel
          have htl : ((ptsOf M2).take v).length = v := by simp [hpl]; omega
          have htk : (ptsOf M2).take (v + 1) = (ptsOf M2).take v ++ [(ptsOf M2)[v]!] := by
            rw [getElem!_pos (ptsOf M2) v (by rw [hpl]; exact hvl)]
            simp
          (repeat' (first | (refine wl_Lg tabOk hbp rfl rfl rfl rfl rfl rfl rfl (run_l tabOk ?_); conv => whnf) | ((first | refine wl_add rfl rfl rfl rfl rfl rfl (by omega) (by omega) (run_l tabOk ?_) | refine wl_cvA tabOk rfl rfl rfl (by simp only [inK]; omega) rfl rfl rfl (run_l tabOk ?_) | refine wl_rem rfl rfl rfl rfl rfl rfl (by omega) (by omega) (fun r hr hr0 hr1 hr2 => run_l tabOk ?_) | refine wl_quo rfl rfl rfl rfl rfl rfl (by omega) (by omega) (by simp only [inK]; omega) (run_l tabOk ?_) | refine wl_mul rfl rfl rfl rfl rfl rfl (by omega) (by omega) (run_l tabOk ?_) | refine gs_dt (by first | assumption | omega) ?_ | refine gs_df (by first | assumption | omega) ?_ | refine gs_b (fun hg => ?_) (fun hg => ?_)) <;> conv => whnf) | refine fin1 rfl rfl ?_))
          refine wl_bs tabOk 31 1 rfl rfl rfl rfl rfl rfl rfl rfl rfl rfl ?_
          intro gn u1 hn
          have hGu := (hGo.below hBp).below hn.below
          obtain ⟨flat, hown, helm⟩ := hGu.own
          rw [htl] at hown
          refine run_l tabOk ?_
          conv => whnf
          refine wl_ap tabOk 31 1 24 hown hn.blk rfl rfl rfl rfl rfl rfl rfl rfl rfl rfl rfl rfl (by simp [Value.oneCell']) (by omega) (by omega) (by have := hn.size; have := hBmp.size; omega) ?_
          intro D2 dc2 u2 hown2 hg2 hob2
          have hpush := rows_push (b' := wo.heap.size) hGu helm (by rw [htl]; exact hown2) hg2 hob2 (hIp.below hn.below) hBo.size (fun k hk e => by have := (hIp.olt k hk).1; have := (hGo.olt k e.symm).2; omega)
          have hgk : wp.grownBy u2 (Value.slice D v dc).ownBlock := grown_trans (grown_of hn.below) hg2
          have hB2 : Below wm.heap.size wm u2 := hBmp.grown hgk hBmp.size (fun k e => (hGo.olt k e).1)
          refine run_l tabOk ?_
          conv => whnf
          (repeat' (first | ((first | refine wl_add rfl rfl rfl rfl rfl rfl (by omega) (by omega) (run_l tabOk ?_) | refine wl_cvA tabOk rfl rfl rfl (by simp only [inK]; omega) rfl rfl rfl (run_l tabOk ?_) | refine wl_rem rfl rfl rfl rfl rfl rfl (by omega) (by omega) (fun r hr hr0 hr1 hr2 => run_l tabOk ?_) | refine wl_quo rfl rfl rfl rfl rfl rfl (by omega) (by omega) (by simp only [inK]; omega) (run_l tabOk ?_) | refine wl_mul rfl rfl rfl rfl rfl rfl (by omega) (by omega) (run_l tabOk ?_) | refine gs_dt (by first | assumption | omega) ?_ | refine gs_df (by first | assumption | omega) ?_ | refine gs_b (fun hg => ?_) (fun hg => ?_)) <;> conv => whnf) | refine fin1 rfl rfl ?_))
          exact ⟨(v + 1, D2, dc2, _), ⟨rfl, rfl, rfl, rfl, trivial⟩, ⟨by simp only; omega, hB2, by simp only; rw [htk]; exact hpush⟩, by simp only; omega⟩
      · have hvn : v = rb.length := by omega
        subst hvn
        (repeat' (first | (refine wl_Lg tabOk hbo rfl rfl rfl rfl rfl rfl rfl (run_l tabOk ?_); conv => whnf) | ((first | refine wl_add rfl rfl rfl rfl rfl rfl (by omega) (by omega) (run_l tabOk ?_) | refine wl_cvA tabOk rfl rfl rfl (by simp only [inK]; omega) rfl rfl rfl (run_l tabOk ?_) | refine wl_rem rfl rfl rfl rfl rfl rfl (by omega) (by omega) (fun r hr hr0 hr1 hr2 => run_l tabOk ?_) | refine wl_quo rfl rfl rfl rfl rfl rfl (by omega) (by omega) (by simp only [inK]; omega) (run_l tabOk ?_) | refine wl_mul rfl rfl rfl rfl rfl rfl (by omega) (by omega) (run_l tabOk ?_) | refine gs_dt (by first | assumption | omega) ?_ | refine gs_df (by first | assumption | omega) ?_ | refine gs_b (fun hg => ?_) (fun hg => ?_)) <;> conv => whnf) | refine fin1 rfl rfl ?_))
        rw [List.take_of_length_le (by omega)] at hGo
        obtain ⟨_, hcap, hrr⟩ := hGo.rowAt
        exact ⟨M2, D, dc, rfl, hIL, hrr, by omega, bup hwm hBo⟩
end Go.Proofs.Ytjggjhgbobmkhaa

/- Knots: a search's plain law. -/
namespace Go.Proofs.Ytjggjhgbobmkhaa
set_option linter.unusedVariables false
set_option linter.unusedSimpArgs false
/-- To come to a node by edges. -/
inductive Rch (E : Nat → Nat → Prop) : Nat → Nat → Prop
  | refl (v : Nat) : Rch E v v
  | step {v w u : Nat} : E v w → Rch E w u → Rch E v u
theorem Rch.trans {E : Nat → Nat → Prop} {a b c : Nat} (h : Rch E a b) (k : Rch E b c) : Rch E a c := by
  induction h with
  | refl => exact k
  | step e _ ih => exact .step e (ih k)
theorem Rch.one {E : Nat → Nat → Prop} {a b : Nat} (h : E a b) : Rch E a b := .step h (.refl b)
theorem Rch.closed {E : Nat → Nat → Prop} {P : Nat → Prop} (hP : ∀ v w, P v → E v w → P w) {a b : Nat} (h : Rch E a b) : P a → P b := by
  induction h with
  | refl => exact id
  | step e _ ih => exact fun p => ih (hP _ _ p e)
/-- The k-th thing of a node's row is a node. -/
def EdK (g : List (List Int)) (v k w : Nat) : Prop := v < g.length ∧ w < g.length ∧ k < (g[v]!).length ∧ (g[v]!)[k]! = (w : Int)
def Ed (g : List (List Int)) (v w : Nat) : Prop := ∃ k, EdK g v k w
abbrev Rg (g : List (List Int)) := Rch (Ed g)
/-- The search's state. -/
structure TS where
  idx : Nat → Nat
  low : Nat → Nat
  on : Nat → Bool
  stk : List Nat
  of : Nat → Nat
  cnt : Nat
  kn : List (List Nat)
  path : List (Nat × Nat)
def TS.pn (s : TS) : List Nat := s.path.map (·.1)
/-- Which edges have been looked at. -/
def TS.Pr (s : TS) (x k : Nat) : Prop := x ∉ s.pn ∨ ∃ nx, (x, nx) ∈ s.path ∧ k < nx
def TS.Dn (s : TS) (v : Nat) : Prop := 0 < s.idx v ∧ v ∉ s.stk
structure TInv (g : List (List Int)) (s : TS) : Prop where
  le : ∀ v, s.idx v ≤ s.cnt
  nod : ∀ v, 0 < s.idx v → v < g.length
  stk : ∀ x ∈ s.stk, 0 < s.idx x
  on : ∀ x, s.on x = true ↔ x ∈ s.stk
  ord : s.stk.Pairwise fun a b => s.idx a < s.idx b
  psub : s.pn.Sublist s.stk
  bot : ∀ x ∈ s.stk, ∃ p ∈ s.pn, s.idx p ≤ s.idx x
  -- what is done
  dk : ∀ v, s.Dn v → s.of v < s.kn.length ∧ v ∈ s.kn[s.of v]!
  kd : ∀ k, k < s.kn.length → s.kn[k]! ≠ [] ∧ (s.kn[k]!).Pairwise (· < ·) ∧ ∀ v ∈ s.kn[k]!, s.Dn v ∧ s.of v = k
  cl : ∀ v w, s.Dn v → Ed g v w → s.Dn w ∧ s.of w ≤ s.of v
  scc : ∀ v u, s.Dn v → s.Dn u → (s.of v = s.of u ↔ Rg g v u ∧ Rg g u v)
  -- what stands on the stack
  pr : ∀ x ∈ s.stk, ∀ k w, s.Pr x k → EdK g x k w → 0 < s.idx w
  j1 : ∀ x ∈ s.stk, x ∉ s.pn → ∃ y ∈ s.stk, s.idx y < s.idx x ∧ Rg g x y
  j2 : ∀ p ∈ s.pn, ∀ x ∈ s.stk, s.idx p ≤ s.idx x → Rg g p x
  j3 : ∀ p ∈ s.pn, s.low p ≤ s.idx p ∧ ∃ y ∈ s.stk, s.idx y = s.low p ∧ Rg g p y
  j4 : ∀ A v nx B, s.path = A ++ (v, nx) :: B → ∀ x ∈ s.stk, s.idx v ≤ s.idx x → (∀ b ∈ B, s.idx x < s.idx b.1) → ∀ k w, s.Pr x k → EdK g x k w → w ∈ s.stk → s.low v ≤ s.idx w
section
variable {g : List (List Int)} {s : TS}
theorem TInv.pstk (h : TInv g s) {v : Nat} (hv : v ∈ s.pn) : v ∈ s.stk := h.psub.subset hv
theorem TInv.inj (h : TInv g s) {a b : Nat} (ha : a ∈ s.stk) (hb : b ∈ s.stk) (e : s.idx a = s.idx b) : a = b := by
  have key : ∀ l : List Nat, l.Pairwise (fun a b => s.idx a < s.idx b) → a ∈ l → b ∈ l → a = b := by
    intro l
    induction l with
    | nil => intro _ h; cases h
    | cons c r ih =>
      intro hp h1 h2
      rw [List.pairwise_cons] at hp
      rcases List.mem_cons.1 h1 with h3 | h3
      · rcases List.mem_cons.1 h2 with h4 | h4
        · rw [h3, h4]
        · have := hp.1 _ h4
          rw [h3] at e
          omega
      · rcases List.mem_cons.1 h2 with h4 | h4
        · have := hp.1 _ h3
          rw [h4] at e
          omega
        · exact ih hp.2 h3 h4
  exact key _ h.ord ha hb
/-- Before anything. -/
def TS.init : TS := ⟨fun _ => 0, fun _ => 0, fun _ => false, [], fun _ => 0, 0, [], []⟩
theorem TInv.init (g : List (List Int)) : TInv g TS.init where
  le := fun _ => Nat.le_refl _
  nod := fun _ h => absurd h (Nat.lt_irrefl 0)
  stk := fun _ h => by cases h
  on := fun _ => ⟨fun h => (by cases h), fun h => (by cases h)⟩
  ord := .nil
  psub := .slnil
  bot := fun _ h => by cases h
  dk := fun _ h => absurd h.1 (Nat.lt_irrefl 0)
  kd := fun _ h => absurd h (Nat.not_lt_zero _)
  cl := fun _ _ h => absurd h.1 (Nat.lt_irrefl 0)
  scc := fun _ _ h => absurd h.1 (Nat.lt_irrefl 0)
  pr := fun _ h => by cases h
  j1 := fun _ h => by cases h
  j2 := fun _ h => by cases h
  j3 := fun _ h => by cases h
  j4 := fun _ _ _ _ _ _ h => by cases h
def setF {α : Type} (f : Nat → α) (v : Nat) (x : α) : Nat → α := fun j => if j = v then x else f j
theorem setF_at {α : Type} (f : Nat → α) (v : Nat) (x : α) : setF f v x v = x := if_pos rfl
theorem setF_ne {α : Type} (f : Nat → α) {v j : Nat} (x : α) (h : j ≠ v) : setF f v x j = f j := if_neg h
/-- A node is come to: from nowhere, or by the edge that was looked at last. -/
def TS.enter (s : TS) (v : Nat) : TS := ⟨setF s.idx v (s.cnt + 1), setF s.low v (s.cnt + 1), setF s.on v true, s.stk ++ [v], s.of, s.cnt + 1, s.kn, s.path ++ [(v, 0)]⟩
theorem TS.enter_pn (s : TS) (v : Nat) : (s.enter v).pn = s.pn ++ [v] := by simp [TS.enter, TS.pn]
theorem TInv.enter (h : TInv g s) {v : Nat} (hv : v < g.length) (h0 : s.idx v = 0) (hp : ∀ p ∈ s.pn, Rg g p v) : TInv g (s.enter v) := by
  have hvs : v ∉ s.stk := fun hh => by have := h.stk v hh; omega
  have hvp : v ∉ s.pn := fun hh => hvs (h.pstk hh)
  have ne : ∀ x ∈ s.stk, x ≠ v := fun x hx e => hvs (e ▸ hx)
  have ix : ∀ x, x ≠ v → (s.enter v).idx x = s.idx x := fun x hx => setF_ne _ _ hx
  have iv : (s.enter v).idx v = s.cnt + 1 := setF_at ..
  have lx : ∀ x, x ≠ v → (s.enter v).low x = s.low x := fun x hx => setF_ne _ _ hx
  have lv : (s.enter v).low v = s.cnt + 1 := setF_at ..
  have ms : ∀ x, x ∈ (s.enter v).stk ↔ x ∈ s.stk ∨ x = v := fun x => by simp [TS.enter]
  have mp : ∀ x, x ∈ (s.enter v).pn ↔ x ∈ s.pn ∨ x = v := fun x => by rw [TS.enter_pn]; simp
  have pos : ∀ x, 0 < (s.enter v).idx x ↔ 0 < s.idx x ∨ x = v := fun x => by
    by_cases e : x = v
    · subst e; rw [iv]; simp
    · rw [ix x e]; simp [e]
  have dn : ∀ x, (s.enter v).Dn x ↔ s.Dn x := fun x => by
    unfold TS.Dn
    rw [pos, ms]
    constructor
    · rintro ⟨h1 | h1, h2⟩
      · exact ⟨h1, fun hh => h2 (.inl hh)⟩
      · exact absurd (.inr h1) h2
    · rintro ⟨h1, h2⟩
      exact ⟨.inl h1, fun hh => hh.elim h2 (fun e => by subst e; omega)⟩
  have prx : ∀ x k, x ≠ v → (s.enter v).Pr x k → s.Pr x k := fun x k e hk => by
    rcases hk with hk | ⟨nx, h1, h2⟩
    · exact .inl fun hh => hk ((mp x).2 (.inl hh))
    · refine .inr ⟨nx, ?_, h2⟩
      have : (x, nx) ∈ s.path ++ [(v, 0)] := h1
      rcases List.mem_append.1 this with h3 | h3
      · exact h3
      · simp at h3; exact absurd h3.1 e
  have prv : ∀ k, ¬ (s.enter v).Pr v k := fun k hk => by
    rcases hk with hk | ⟨nx, h1, h2⟩
    · exact hk ((mp v).2 (.inr rfl))
    · have : (v, nx) ∈ s.path ++ [(v, 0)] := h1
      rcases List.mem_append.1 this with h3 | h3
      · exact hvp (List.mem_map.2 ⟨_, h3, rfl⟩)
      · simp at h3; omega
  have lt : ∀ x ∈ s.stk, s.idx x < s.cnt + 1 := fun x _ => by have := h.le x; omega
  constructor
  · intro x
    show (s.enter v).idx x ≤ s.cnt + 1
    by_cases e : x = v
    · subst e; rw [iv]; omega
    · rw [ix x e]; have := h.le x; omega
  · intro x hx
    rcases (pos x).1 hx with hx | rfl
    · exact h.nod x hx
    · exact hv
  · intro x hx
    exact (pos x).2 (((ms x).1 hx).imp (h.stk x) id)
  · intro x
    rw [ms, ← h.on]
    show setF s.on v true x = true ↔ _
    by_cases e : x = v
    · subst e; rw [setF_at]; simp
    · rw [setF_ne _ _ e]; simp [e]
  · show (s.stk ++ [v]).Pairwise _
    rw [List.pairwise_append]
    refine ⟨h.ord.imp_of_mem fun ha hb hab => by rw [ix _ (ne _ ha), ix _ (ne _ hb)]; exact hab, List.pairwise_singleton _ _, fun a ha b hb => ?_⟩
    simp at hb
    subst hb
    rw [ix a (ne a ha), iv]
    exact lt a ha
  · rw [TS.enter_pn]
    exact h.psub.append (List.Sublist.refl [v])
  · intro x hx
    rcases (ms x).1 hx with hx' | rfl
    · obtain ⟨p, hp1, hp2⟩ := h.bot x hx'
      exact ⟨p, (mp p).2 (.inl hp1), by rw [ix p (ne p (h.pstk hp1)), ix x (ne x hx')]; exact hp2⟩
    · exact ⟨x, (mp x).2 (.inr rfl), Nat.le_refl _⟩
  · intro x hx
    exact h.dk x ((dn x).1 hx)
  · intro k hk
    obtain ⟨h1, h2, h3⟩ := h.kd k hk
    exact ⟨h1, h2, fun x hx => ⟨(dn x).2 (h3 x hx).1, (h3 x hx).2⟩⟩
  · intro x w hx he
    obtain ⟨h1, h2⟩ := h.cl x w ((dn x).1 hx) he
    exact ⟨(dn w).2 h1, h2⟩
  · intro x u hx hu
    exact h.scc x u ((dn x).1 hx) ((dn u).1 hu)
  · intro x hx k w hk he
    rcases (ms x).1 hx with hx' | rfl
    · exact (pos w).2 (.inl (h.pr x hx' k w (prx x k (ne x hx') hk) he))
    · exact absurd hk (prv k)
  · intro x hx hxp
    rcases (ms x).1 hx with hx' | rfl
    · obtain ⟨y, hy, h1, h2⟩ := h.j1 x hx' fun hh => hxp ((mp x).2 (.inl hh))
      exact ⟨y, (ms y).2 (.inl hy), by rw [ix y (ne y hy), ix x (ne x hx')]; exact h1, h2⟩
    · exact absurd ((mp x).2 (.inr rfl)) hxp
  · intro p hp' x hx hle
    rcases (mp p).1 hp' with hp1 | rfl
    · rcases (ms x).1 hx with hx' | rfl
      · rw [ix p (ne p (h.pstk hp1)), ix x (ne x hx')] at hle
        exact h.j2 p hp1 x hx' hle
      · exact hp p hp1
    · rcases (ms x).1 hx with hx' | rfl
      · rw [iv, ix x (ne x hx')] at hle
        have := lt x hx'
        omega
      · exact .refl _
  · intro p hp'
    rcases (mp p).1 hp' with hp1 | rfl
    · obtain ⟨h1, y, hy, h2, h3⟩ := h.j3 p hp1
      have hpv := ne p (h.pstk hp1)
      exact ⟨by rw [lx p hpv, ix p hpv]; exact h1, y, (ms y).2 (.inl hy), by rw [ix y (ne y hy), lx p hpv]; exact h2, h3⟩
    · exact ⟨by rw [lv, iv]; exact Nat.le_refl _, p, (ms p).2 (.inr rfl), by rw [iv, lv], .refl _⟩
  · intro A u nx B hpath x hx hle hB k w hk he hw
    have hpath : s.path ++ [(v, 0)] = A ++ (u, nx) :: B := hpath
    rcases (ms x).1 hx with hx' | rfl
    · have hxv := ne x hx'
      rw [ix x hxv] at hle hB
      have hk' := prx x k hxv hk
      have hu : u ∈ (s.enter v).pn := List.mem_map.2 ⟨(u, nx), by show _ ∈ s.path ++ [(v, 0)]; rw [hpath]; simp, rfl⟩
      have huv : u ≠ v := fun e => by
        subst e
        rw [iv] at hle
        have := lt x hx'
        omega
      have hus : u ∈ s.pn := ((mp u).1 hu).resolve_right huv
      rw [ix u huv] at hle
      rw [lx u huv]
      rcases List.eq_nil_or_concat B with rfl | ⟨B', b, rfl⟩
      · have := congrArg List.getLast? hpath
        simp at this
        exact absurd this.1.symm huv
      · have e2 : s.path ++ [(v, 0)] = (A ++ (u, nx) :: B') ++ [b] := by rw [hpath]; simp
        have e3 := List.append_inj' e2 rfl
        rcases (ms w).1 hw with hw' | rfl
        · rw [ix w (ne w hw')]
          refine h.j4 A u nx B' e3.1 x hx' hle (fun c hc => ?_) k w hk' he hw'
          have := hB c (by simp [hc])
          have hcs : c.1 ∈ s.stk := h.pstk (List.mem_map.2 ⟨c, by rw [e3.1]; simp [hc], rfl⟩)
          rwa [ix c.1 (ne _ hcs)] at this
        · have := h.pr x hx' k w hk' he
          omega
    · exact absurd hk (prv k)
theorem TInv.pnd (h : TInv g s) : s.pn.Pairwise fun a b => s.idx a < s.idx b := h.ord.sublist h.psub
/-- The path's order. -/
theorem TInv.plt (h : TInv g s) {A B : List (Nat × Nat)} {v nx : Nat} (hp : s.path = A ++ (v, nx) :: B) : (∀ a ∈ A, s.idx a.1 < s.idx v) ∧ ∀ b ∈ B, s.idx v < s.idx b.1 := by
  have := h.pnd
  unfold TS.pn at this
  rw [hp, List.map_append, List.map_cons, List.pairwise_append, List.pairwise_cons] at this
  exact ⟨fun a ha => this.2.2 a.1 (List.mem_map.2 ⟨a, ha, rfl⟩) v (by simp), fun b hb => this.2.1.1 b.1 (List.mem_map.2 ⟨b, hb, rfl⟩)⟩
/-- A frame goes on to the next edge. -/
def TS.adv (s : TS) (A B : List (Nat × Nat)) (v nx m : Nat) : TS := { s with path := A ++ (v, nx + 1) :: B, low := setF s.low v m }
theorem TInv.adv (h : TInv g s) {A B : List (Nat × Nat)} {v nx m : Nat} (hp : s.path = A ++ (v, nx) :: B) (hm : m ≤ s.low v) (hmw : m = s.low v ∨ ∃ w ∈ s.stk, EdK g v nx w ∧ m = s.idx w) (he : ∀ w, EdK g v nx w → 0 < s.idx w ∧ (w ∈ s.stk → m ≤ s.idx w)) : TInv g (s.adv A B v nx m) := by
  have hpn : (s.adv A B v nx m).pn = s.pn := by simp [TS.adv, TS.pn, hp]
  have hvp : v ∈ s.pn := by unfold TS.pn; rw [hp]; simp
  have hvs := h.pstk hvp
  obtain ⟨hA, hB⟩ := h.plt hp
  have lv : (s.adv A B v nx m).low v = m := setF_at ..
  have lx : ∀ x, x ≠ v → (s.adv A B v nx m).low x = s.low x := fun x hx => setF_ne _ _ hx
  have prx : ∀ x k, (s.adv A B v nx m).Pr x k → s.Pr x k ∨ (x = v ∧ k = nx) := fun x k hk => by
    rcases hk with hk | ⟨n1, h1, h2⟩
    · rw [hpn] at hk
      exact .inl (.inl hk)
    · have h1 : (x, n1) ∈ A ++ (v, nx + 1) :: B := h1
      rcases List.mem_append.1 h1 with h3 | h3
      · exact .inl (.inr ⟨n1, by rw [hp]; exact List.mem_append.2 (.inl h3), h2⟩)
      · rcases List.mem_cons.1 h3 with h4 | h4
        · injection h4 with h5 h6
          by_cases e : k = nx
          · exact .inr ⟨h5, e⟩
          · exact .inl (.inr ⟨nx, by rw [hp, h5]; simp, by omega⟩)
        · exact .inl (.inr ⟨n1, by rw [hp]; simp [h4], h2⟩)
  refine { le := h.le, nod := h.nod, stk := h.stk, on := h.on, ord := h.ord, psub := hpn ▸ h.psub, bot := fun x hx => hpn ▸ h.bot x hx, dk := h.dk, kd := h.kd, cl := h.cl, scc := h.scc, pr := ?_, j1 := fun x hx hxp => h.j1 x hx (hpn ▸ hxp), j2 := fun q hq => h.j2 q (hpn ▸ hq), j3 := ?_, j4 := ?_ }
  · intro x hx k w hk hw
    rcases prx x k hk with hk | ⟨rfl, rfl⟩
    · exact h.pr x hx k w hk hw
    · exact (he w hw).1
  · intro q hq
    rw [hpn] at hq
    obtain ⟨h1, y, hy, h2, h3⟩ := h.j3 q hq
    by_cases e : q = v
    · subst e
      rw [lv]
      refine ⟨by show m ≤ s.idx q; omega, ?_⟩
      rcases hmw with rfl | ⟨w, hw, hw2, rfl⟩
      · exact ⟨y, hy, h2, h3⟩
      · exact ⟨w, hw, rfl, .one ⟨_, hw2⟩⟩
    · rw [lx q e]
      exact ⟨h1, y, hy, h2, h3⟩
  · intro A' u n1 B' hpath x hx hle hBx k w hk hw hws
    have hpath : A ++ (v, nx + 1) :: B = A' ++ (u, n1) :: B' := hpath
    have hu : u ∈ s.pn := by
      rw [← hpn]
      exact List.mem_map.2 ⟨(u, n1), by show _ ∈ A ++ (v, nx + 1) :: B; rw [hpath]; simp, rfl⟩
    -- the frame of old
    have old : ∃ A0 n0 B0, s.path = A0 ++ (u, n0) :: B0 ∧ (∀ b ∈ B0, ∃ n2, (b.1, n2) ∈ B') := by
      have hmap : ∀ (l l' : List (Nat × Nat)), l.map (·.1) = l'.map (·.1) → ∀ C D u1 n1, l' = C ++ (u1, n1) :: D → ∃ C0 n0 D0, l = C0 ++ (u1, n0) :: D0 ∧ D0.map (·.1) = D.map (·.1) := by
        intro l l' hl C D u1 n1 e
        subst e
        rw [List.map_append, List.map_cons] at hl
        obtain ⟨C0, D1, rfl, h2, h3⟩ := List.map_eq_append_iff.1 hl
        obtain ⟨c, D0, rfl, h4, h5⟩ := List.map_eq_cons_iff.1 h3
        have h4 : c.1 = u1 := h4
        exact ⟨C0, c.2, D0, by rw [← h4], h5⟩
      obtain ⟨C0, n0, D0, e1, e2⟩ := hmap s.path (A ++ (v, nx + 1) :: B) (by rw [hp]; simp) A' B' u n1 hpath
      refine ⟨C0, n0, D0, e1, fun b hb => ?_⟩
      have : b.1 ∈ B'.map (·.1) := by rw [← e2]; exact List.mem_map.2 ⟨b, hb, rfl⟩
      obtain ⟨c, hc, e⟩ := List.mem_map.1 this
      exact ⟨c.2, by rw [← e]; exact hc⟩
    obtain ⟨A0, n0, B0, e1, e2⟩ := old
    have hB0 : ∀ b ∈ B0, s.idx x < s.idx b.1 := fun b hb => by
      obtain ⟨n2, hn2⟩ := e2 b hb
      have := hBx (b.1, n2) hn2
      exact this
    have hws : w ∈ s.stk := hws
    have hx : x ∈ s.stk := hx
    have hle : s.idx u ≤ s.idx x := hle
    rcases prx x k hk with hk | ⟨rfl, rfl⟩
    · have h1 := h.j4 A0 u n0 B0 e1 x hx hle hB0 k w hk hw hws
      show (s.adv A B v nx m).low u ≤ s.idx w
      by_cases e : u = v
      · subst e
        rw [lv]
        omega
      · rw [lx u e]
        exact h1
    · -- the frame itself
      have huv : u = x := by
        apply Classical.byContradiction
        intro hne
        have hlt : s.idx u < s.idx x := Nat.lt_of_le_of_ne hle fun e => hne (h.inj (h.pstk hu) hx e)
        have hxB : x ∈ B0.map (·.1) := by
          have hxp : x ∈ s.pn := hvp
          unfold TS.pn at hxp
          rw [e1, List.map_append, List.map_cons] at hxp
          rcases List.mem_append.1 hxp with h3 | h3
          · obtain ⟨c, hc, e⟩ := List.mem_map.1 h3
            have := (h.plt e1).1 c hc
            rw [e] at this
            omega
          · rcases List.mem_cons.1 h3 with h4 | h4
            · exact absurd h4.symm hne
            · exact h4
        obtain ⟨b, hb, e⟩ := List.mem_map.1 hxB
        have := hB0 b hb
        rw [e] at this
        omega
      subst huv
      show (s.adv A B u k m).low u ≤ s.idx w
      rw [lv]
      exact (he w hw).2 hws
end
section
variable {g : List (List Int)} {s : TS}
/-- A frame is done, but its node comes to one ahead: the frame ahead takes what it found. -/
def TS.pop (s : TS) (A : List (Nat × Nat)) (u k m : Nat) : TS := { s with path := A ++ [(u, k)], low := setF s.low u m }
theorem TInv.pop (h : TInv g s) {A : List (Nat × Nat)} {u k v nx : Nat} (hp : s.path = A ++ [(u, k), (v, nx)]) (hall : ∀ k w, EdK g v k w → k < nx) (hne : s.low v ≠ s.idx v) : TInv g (s.pop A u k (min (s.low u) (s.low v))) := by
  have hp2 : s.path = (A ++ [(u, k)]) ++ (v, nx) :: [] := by rw [hp]; simp
  have hp3 : s.path = A ++ (u, k) :: [(v, nx)] := hp
  have hpn : s.pn = (s.pop A u k (min (s.low u) (s.low v))).pn ++ [v] := by simp [TS.pop, TS.pn, hp]
  have hup : u ∈ s.pn := by unfold TS.pn; rw [hp]; simp
  have hvp : v ∈ s.pn := by unfold TS.pn; rw [hp]; simp
  have huv : s.idx u < s.idx v := (h.plt hp3).2 (v, nx) (by simp)
  obtain ⟨hlv, y, hy, hy2, hy3⟩ := h.j3 v hvp
  obtain ⟨hlu, z, hz, hz2, hz3⟩ := h.j3 u hup
  have hvs := h.pstk hvp
  have mp : ∀ x, x ∈ s.pn ↔ x ∈ (s.pop A u k (min (s.low u) (s.low v))).pn ∨ x = v := fun x => by rw [hpn]; simp
  have lu : (s.pop A u k (min (s.low u) (s.low v))).low u = min (s.low u) (s.low v) := setF_at ..
  have lx : ∀ x, x ≠ u → (s.pop A u k (min (s.low u) (s.low v))).low x = s.low x := fun x hx => setF_ne _ _ hx
  have prx : ∀ x j w, EdK g x j w → (s.pop A u k (min (s.low u) (s.low v))).Pr x j → s.Pr x j := fun x j w he hk => by
    by_cases e : x = v
    · subst e
      exact .inr ⟨nx, by rw [hp]; simp, hall j w he⟩
    · rcases hk with hk | ⟨n1, h1, h2⟩
      · exact .inl fun hh => ((mp x).1 hh).elim hk e
      · have h1 : (x, n1) ∈ A ++ [(u, k)] := h1
        exact .inr ⟨n1, by rw [hp2]; exact List.mem_append.2 (.inl h1), h2⟩
  have low : ∀ x ∈ s.stk, s.idx x < s.idx v → x ≠ v := fun x _ hx e => by subst e; omega
  refine { le := h.le, nod := h.nod, stk := h.stk, on := h.on, ord := h.ord, psub := ?_, bot := fun x hx => ?_, dk := h.dk, kd := h.kd, cl := h.cl, scc := h.scc, pr := fun x hx j w hk he => h.pr x hx j w (prx x j w he hk) he, j1 := fun x hx hxp => ?_, j2 := fun q hq => h.j2 q ((mp q).2 (.inl hq)), j3 := fun q hq => ?_, j4 := ?_ }
  · have := h.psub
    rw [hpn] at this
    exact (List.sublist_append_left _ _).trans this
  · obtain ⟨q, hq, hq2⟩ := h.bot x hx
    rcases (mp q).1 hq with hq | rfl
    · exact ⟨q, hq, hq2⟩
    · exact ⟨u, by simp [TS.pop, TS.pn], by show s.idx u ≤ s.idx x; omega⟩
  · by_cases e : x = v
    · subst e
      exact ⟨y, hy, by show s.idx y < s.idx x; omega, hy3⟩
    · exact h.j1 x hx fun hh => ((mp x).1 hh).elim hxp e
  · by_cases e : q = u
    · subst e
      rw [lu]
      refine ⟨by show _ ≤ s.idx q; omega, ?_⟩
      by_cases hc : s.low q ≤ s.low v
      · exact ⟨z, hz, by rw [Nat.min_eq_left hc]; exact hz2, hz3⟩
      · exact ⟨y, hy, by rw [Nat.min_eq_right (by omega)]; exact hy2, (h.j2 q hup v hvs (by omega)).trans hy3⟩
    · rw [lx q e]
      exact h.j3 q ((mp q).2 (.inl hq))
  · intro A' a n1 B' hpath x hx hle hBx j w hk he hws
    have hpath : A ++ [(u, k)] = A' ++ (a, n1) :: B' := hpath
    have hx : x ∈ s.stk := hx
    have hws : w ∈ s.stk := hws
    have hle : s.idx a ≤ s.idx x := hle
    have hk' := prx x j w he hk
    have hfull : s.path = A' ++ (a, n1) :: (B' ++ [(v, nx)]) := by rw [hp2, hpath]; simp
    by_cases hxv : s.idx x < s.idx v
    · have h1 := h.j4 A' a n1 (B' ++ [(v, nx)]) hfull x hx hle (fun b hb => by
        rcases List.mem_append.1 hb with hb | hb
        · exact hBx b hb
        · simp at hb; rw [hb]; exact hxv) j w hk' he hws
      show (s.pop A u k (min (s.low u) (s.low v))).low a ≤ s.idx w
      by_cases e : a = u
      · subst e; rw [lu]; omega
      · rw [lx a e]; exact h1
    · have h1 := h.j4 (A ++ [(u, k)]) v nx [] hp2 x hx (by omega) (fun b hb => by cases hb) j w hk' he hws
      have hau : a = u := by
        rcases List.eq_nil_or_concat B' with rfl | ⟨B2, b, rfl⟩
        · have := congrArg List.getLast? hpath
          simp at this
          exact this.1.symm
        · have e2 : A ++ [(u, k)] = (A' ++ (a, n1) :: B2) ++ [b] := by rw [hpath]; simp
          have e3 := List.append_inj' e2 rfl
          have e4 : b = (u, k) := by have := e3.2; simp at this; exact this.symm
          have := hBx b (by simp)
          rw [e4] at this
          have this : s.idx x < s.idx u := this
          omega
      subst hau
      show (s.pop A a k (min (s.low a) (s.low v))).low a ≤ s.idx w
      rw [lu]
      omega
/-- A knot is found: from the node on that comes to none ahead. -/
def TS.leave (s : TS) (A : List (Nat × Nat)) (L T l : List Nat) : TS := ⟨s.idx, s.low, fun x => s.on x && !decide (x ∈ T), L, fun x => if x ∈ T then s.kn.length else s.of x, s.cnt, s.kn ++ [l], A⟩
theorem TInv.leave (h : TInv g s) {A : List (Nat × Nat)} {v nx : Nat} {L T l : List Nat} (hp : s.path = A ++ [(v, nx)]) (hall : ∀ k w, EdK g v k w → k < nx) (he : s.low v = s.idx v) (hs : s.stk = L ++ T) (hT : T.head? = some v) (hl : l.Pairwise (· < ·)) (hlT : ∀ x, x ∈ l ↔ x ∈ T) : TInv g (s.leave A L T l) := by
  have hp2 : s.path = A ++ (v, nx) :: [] := hp
  have hvp : v ∈ s.pn := by unfold TS.pn; rw [hp]; simp
  have hvs := h.pstk hvp
  have hvT : v ∈ T := by cases T with
    | nil => cases hT
    | cons a r => simp at hT; simp [hT]
  have hord := h.ord
  rw [hs, List.pairwise_append] at hord
  obtain ⟨oL, oT, oLT⟩ := hord
  have hTge : ∀ x ∈ T, s.idx v ≤ s.idx x := fun x hx => by
    cases T with
    | nil => cases hT
    | cons a r =>
      simp at hT
      subst hT
      rcases List.mem_cons.1 hx with e | hx
      · rw [e]; exact Nat.le_refl _
      · exact Nat.le_of_lt ((List.pairwise_cons.1 oT).1 x hx)
  have hLlt : ∀ x ∈ L, s.idx x < s.idx v := fun x hx => oLT x hx v hvT
  have mT : ∀ x, x ∈ T ↔ x ∈ s.stk ∧ s.idx v ≤ s.idx x := fun x => by
    rw [hs, List.mem_append]
    constructor
    · exact fun hx => ⟨.inr hx, hTge x hx⟩
    · rintro ⟨hx | hx, h2⟩
      · have := hLlt x hx; omega
      · exact hx
  have mL : ∀ x, x ∈ L ↔ x ∈ s.stk ∧ x ∉ T := fun x => by
    constructor
    · intro hx
      exact ⟨by rw [hs]; exact List.mem_append.2 (.inl hx), fun hh => by have := hLlt x hx; have := hTge x hh; omega⟩
    · rintro ⟨hx, h2⟩
      rw [hs, List.mem_append] at hx
      exact hx.resolve_right h2
  have hpnA : s.pn = A.map (·.1) ++ [v] := by simp [TS.pn, hp]
  have hA : ∀ a ∈ A, s.idx a.1 < s.idx v := (h.plt hp2).1
  have hpnT : ∀ x ∈ T, x ∈ s.pn → x = v := fun x hx hxp => by
    rw [hpnA] at hxp
    rcases List.mem_append.1 hxp with h1 | h1
    · obtain ⟨a, ha, e⟩ := List.mem_map.1 h1
      have := hA a ha
      have := hTge x hx
      rw [e] at *
      omega
    · simpa using h1
  -- all edges of the knot were looked at
  have prT : ∀ x ∈ T, ∀ j w, EdK g x j w → s.Pr x j := fun x hx j w hj => by
    by_cases e : x ∈ s.pn
    · have := hpnT x hx e
      subst this
      exact .inr ⟨nx, by rw [hp]; simp, hall j w hj⟩
    · exact .inl e
  have clT : ∀ x ∈ T, ∀ w, Ed g x w → w ∈ T ∨ s.Dn w := fun x hx w ⟨j, hj⟩ => by
    have hxs := ((mT x).1 hx).1
    have hk := prT x hx j w hj
    have h1 := h.pr x hxs j w hk hj
    by_cases hw : w ∈ s.stk
    · refine .inl ((mT w).2 ⟨hw, ?_⟩)
      have := h.j4 A v nx [] hp2 x hxs (hTge x hx) (fun b hb => by cases hb) j w hk hj hw
      omega
    · exact .inr ⟨h1, hw⟩
  have dnT : ∀ x ∈ T, ¬ s.Dn x := fun x hx hh => hh.2 ((mT x).1 hx).1
  have down : ∀ x ∈ T, Rg g v x := fun x hx => h.j2 v hvp x ((mT x).1 hx).1 (hTge x hx)
  have clTD : ∀ a b, (a ∈ T ∨ s.Dn a) → Ed g a b → (b ∈ T ∨ s.Dn b) := fun a b ha e => ha.elim (fun ha => clT a ha b e) fun ha => .inr (h.cl a b ha e).1
  have up : ∀ m x, x ∈ T → s.idx x = m → Rg g x v := by
    intro m
    induction m using Nat.strongRecOn with
    | _ m ih =>
      intro x hx hm
      by_cases e : x ∈ s.pn
      · rw [hpnT x hx e]; exact .refl _
      · obtain ⟨y, hy, h1, h2⟩ := h.j1 x ((mT x).1 hx).1 e
        have hyT : y ∈ T := ((h2.closed clTD) (.inl hx)).resolve_right fun hh => hh.2 hy
        exact h2.trans (ih (s.idx y) (by omega) y hyT rfl)
  have clD : ∀ a b, s.Dn a → Ed g a b → s.Dn b := fun a b ha e => (h.cl a b ha e).1
  have ofT : ∀ x ∈ T, (s.leave A L T l).of x = s.kn.length := fun x hx => if_pos hx
  have ofD : ∀ x, x ∉ T → (s.leave A L T l).of x = s.of x := fun x hx => if_neg hx
  have dn : ∀ x, (s.leave A L T l).Dn x ↔ s.Dn x ∨ x ∈ T := fun x => by
    show 0 < s.idx x ∧ x ∉ L ↔ _
    rw [mL]
    constructor
    · rintro ⟨h1, h2⟩
      by_cases e : x ∈ s.stk
      · exact .inr (Classical.byContradiction fun hh => h2 ⟨e, hh⟩)
      · exact .inl ⟨h1, e⟩
    · rintro (h1 | h1)
      · exact ⟨h1.1, fun hh => h1.2 hh.1⟩
      · exact ⟨h.stk x ((mT x).1 h1).1, fun hh => hh.2 h1⟩
  have mp : ∀ x, x ∈ (s.leave A L T l).pn ↔ x ∈ s.pn ∧ x ≠ v := fun x => by
    show x ∈ A.map (·.1) ↔ _
    rw [hpnA]
    constructor
    · intro hx
      refine ⟨by simp only [List.mem_append]; exact .inl hx, fun e => ?_⟩
      obtain ⟨a, ha, e2⟩ := List.mem_map.1 hx
      have := hA a ha
      rw [e2, e] at this
      omega
    · rintro ⟨hx, h2⟩
      rcases List.mem_append.1 hx with h1 | h1
      · exact h1
      · simp at h1; exact absurd h1 h2
  have knl : ∀ k, k < s.kn.length → (s.leave A L T l).kn[k]! = s.kn[k]! := fun k hk => by
    show (s.kn ++ [l])[k]! = _
    rw [getElem!_pos _ k (by simp; omega), getElem!_pos _ k hk, List.getElem_append_left hk]
  have kne : (s.leave A L T l).kn[s.kn.length]! = l := by
    show (s.kn ++ [l])[s.kn.length]! = _
    rw [getElem!_pos _ _ (by simp)]
    simp
  have knL : (s.leave A L T l).kn.length = s.kn.length + 1 := by simp [TS.leave]
  have pr2 : ∀ x ∈ L, ∀ j, (s.leave A L T l).Pr x j → s.Pr x j := fun x hx j hk => by
    have hxv : x ≠ v := fun e => ((mL x).1 hx).2 (e ▸ hvT)
    rcases hk with hk | ⟨n1, h1, h2⟩
    · exact .inl fun hh => hk ((mp x).2 ⟨hh, hxv⟩)
    · have h1 : (x, n1) ∈ A := h1
      exact .inr ⟨n1, by rw [hp]; simp [h1], h2⟩
  refine { le := h.le, nod := h.nod, stk := fun x hx => h.stk x ((mL x).1 hx).1, on := fun x => ?_, ord := oL, psub := ?_, bot := fun x hx => ?_, dk := fun x hx => ?_, kd := fun k hk => ?_, cl := fun x w hx e => ?_, scc := fun x u hx hu => ?_, pr := fun x hx j w hk hj => h.pr x ((mL x).1 hx).1 j w (pr2 x hx j hk) hj, j1 := fun x hx hxp => ?_, j2 := fun q hq x hx => h.j2 q ((mp q).1 hq).1 x ((mL x).1 hx).1, j3 := fun q hq => ?_, j4 := ?_ }
  · show (s.on x && !decide (x ∈ T)) = true ↔ x ∈ L
    rw [mL, Bool.and_eq_true, h.on, Bool.not_eq_true', decide_eq_false_iff_not]
  · show (A.map (·.1)).Sublist L
    have h1 := h.psub
    rw [hpnA, hs] at h1
    have h2 : (A.map (·.1)).Sublist (L ++ T) := (List.sublist_append_left _ _).trans h1
    obtain ⟨l1, l2, e, s1, s2⟩ := List.sublist_append_iff.1 h2
    have : l2 = [] := by
      cases l2 with
      | nil => rfl
      | cons c r =>
        have hc : c ∈ T := s2.subset (by simp)
        have hcA : c ∈ A.map (·.1) := by rw [e]; simp
        obtain ⟨a, ha, e2⟩ := List.mem_map.1 hcA
        have := hA a ha
        have := hTge c hc
        rw [e2] at *
        omega
    rw [e, this, List.append_nil]
    exact s1
  · obtain ⟨q, hq, hq2⟩ := h.bot x ((mL x).1 hx).1
    refine ⟨q, (mp q).2 ⟨hq, fun e => ?_⟩, hq2⟩
    subst e
    have := hLlt x hx
    omega
  · by_cases e : x ∈ T
    · rw [ofT x e, knL, kne]
      exact ⟨by omega, (hlT x).2 e⟩
    · have hd := ((dn x).1 hx).resolve_right e
      obtain ⟨h1, h2⟩ := h.dk x hd
      rw [ofD x e, knL, knl _ h1]
      exact ⟨by omega, h2⟩
  · rw [knL] at hk
    by_cases e : k < s.kn.length
    · rw [knl k e]
      obtain ⟨h1, h2, h3⟩ := h.kd k e
      exact ⟨h1, h2, fun x hx => ⟨(dn x).2 (.inl (h3 x hx).1), by rw [ofD x fun hh => dnT x hh (h3 x hx).1]; exact (h3 x hx).2⟩⟩
    · have e : k = s.kn.length := by omega
      subst e
      rw [kne]
      refine ⟨fun e => ?_, hl, fun x hx => ⟨(dn x).2 (.inr ((hlT x).1 hx)), ofT x ((hlT x).1 hx)⟩⟩
      have := (hlT v).2 hvT
      rw [e] at this
      cases this
  · rcases (dn x).1 hx with hd | hd
    · have := h.cl x w hd e
      refine ⟨(dn w).2 (.inl this.1), ?_⟩
      rw [ofD x fun hh => dnT x hh hd, ofD w fun hh => dnT w hh this.1]
      exact this.2
    · rw [ofT x hd]
      rcases clT x hd w e with hw | hw
      · exact ⟨(dn w).2 (.inr hw), by rw [ofT w hw]; exact Nat.le_refl _⟩
      · exact ⟨(dn w).2 (.inl hw), by rw [ofD w fun hh => dnT w hh hw]; exact Nat.le_of_lt (h.dk w hw).1⟩
  · rcases (dn x).1 hx with hd | hd
    · have hxT : x ∉ T := fun hh => dnT x hh hd
      rcases (dn u).1 hu with he' | he'
      · rw [ofD x hxT, ofD u fun hh => dnT u hh he']
        exact h.scc x u hd he'
      · rw [ofD x hxT, ofT u he']
        constructor
        · intro e
          have := (h.dk x hd).1
          omega
        · intro e
          exact absurd ((e.1.closed clD) hd) (dnT u he')
    · rcases (dn u).1 hu with he' | he'
      · rw [ofT x hd, ofD u fun hh => dnT u hh he']
        constructor
        · intro e
          have := (h.dk u he').1
          omega
        · intro e
          exact absurd ((e.2.closed clD) he') (dnT x hd)
      · rw [ofT x hd, ofT u he']
        exact ⟨fun _ => ⟨(up _ x hd rfl).trans (down u he'), (up _ u he' rfl).trans (down x hd)⟩, fun _ => rfl⟩
  · have hxs := ((mL x).1 hx).1
    have hxv : x ≠ v := fun e => ((mL x).1 hx).2 (e ▸ hvT)
    obtain ⟨y, hy, h1, h2⟩ := h.j1 x hxs fun hh => hxp ((mp x).2 ⟨hh, hxv⟩)
    exact ⟨y, (mL y).2 ⟨hy, fun hh => by have := hLlt x hx; have := hTge y hh; omega⟩, h1, h2⟩
  · obtain ⟨hq1, hq2⟩ := (mp q).1 hq
    obtain ⟨h1, y, hy, h2, h3⟩ := h.j3 q hq1
    refine ⟨h1, y, (mL y).2 ⟨hy, fun hh => ?_⟩, h2, h3⟩
    have h4 := hTge y hh
    have hqA : q ∈ A.map (·.1) := hq
    obtain ⟨a, ha, e⟩ := List.mem_map.1 hqA
    have := hA a ha
    rw [e] at this
    omega
  · intro A' a n1 B' hpath x hx hle hBx j w hk hj hws
    have hpath : A = A' ++ (a, n1) :: B' := hpath
    have hfull : s.path = A' ++ (a, n1) :: (B' ++ [(v, nx)]) := by rw [hp, hpath]; simp
    exact h.j4 A' a n1 (B' ++ [(v, nx)]) hfull x ((mL x).1 hx).1 hle (fun b hb => by
      rcases List.mem_append.1 hb with hb | hb
      · exact hBx b hb
      · simp at hb
        rw [hb]
        exact hLlt x hx) j w (pr2 x hx j hk) hj ((mL w).1 hws).1
/-- Behind the last frame: the node that began it all is no one's but its own. -/
theorem TInv.last (h : TInv g s) {v nx : Nat} (hp : s.path = [(v, nx)]) : s.low v = s.idx v := by
  have hvp : v ∈ s.pn := by unfold TS.pn; rw [hp]; simp
  obtain ⟨h1, y, hy, h2, _⟩ := h.j3 v hvp
  obtain ⟨q, hq, hq2⟩ := h.bot y hy
  unfold TS.pn at hq
  rw [hp] at hq
  simp at hq
  subst hq
  omega
theorem TInv.empty (h : TInv g s) (hp : s.path = []) : s.stk = [] := by
  cases hs : s.stk with
  | nil => rfl
  | cons a r =>
    obtain ⟨q, hq, _⟩ := h.bot a (by rw [hs]; simp)
    unfold TS.pn at hq
    rw [hp] at hq
    cases hq
end
end Go.Proofs.Ytjggjhgbobmkhaa

/- The orders once more, where operations have guards. -/
namespace Go.Proofs.Ytjggjhgbobmkhaa
open Go.RowKit
set_option linter.unusedVariables false
set_option linter.unusedSimpArgs false
section
variable {P : Program} {ops : Array Oper} {md : Region.Mode} {C : World → Prop}
end
section
variable {P : Program} {T : Nat → Option TI} {n : Nat} {Q : Post} {F : Fm} {w : World} {ops : Array Oper} {o : Oper} {C : World → Prop}
end
end Go.Proofs.Ytjggjhgbobmkhaa

/- Rows whose elements look at elder blocks; loads in drawn regions with several makes. -/
namespace Go.Proofs.Ytjggjhgbobmkhaa
open Go.RowKit
set_option linter.unusedVariables false
set_option linter.unusedSimpArgs false
/-- A row of the call's own whose elements look at elder blocks alone. -/
structure LRow {α : Type} [Inhabited α] (sz : Nat) (d : Dec α) (e : TypeId) (base : Nat) (w0 w : World) (v : Value) (xs : List α) : Prop where
  own : ∃ flat, w.ownsRow base e sz v xs.length flat ∧ ∀ w', Below w0.heap.size w0 w' → Elems sz d w' flat xs
section
variable {α : Type} [Inhabited α] {sz : Nat} {d : Dec α} {e : TypeId} {base : Nat} {w0 w w1 : World} {v v' : Value} {xs : List α}
theorem LRow.nil (sz : Nat) (d : Dec α) (e : TypeId) (base : Nat) (w0 w : World) : LRow sz d e base w0 w (.slice none 0 0) ([] : List α) := ⟨[], own_nil .., fun _ _ => Elems.nil ..⟩
theorem LRow.up (h : LRow sz d e base w0 w v xs) (hb : Below w.heap.size w w1) : LRow sz d e base w0 w1 v xs := by
  obtain ⟨flat, h1, h2⟩ := h.own
  exact ⟨flat, h1.kept (grown_of hb) (Classical.em _), h2⟩
theorem LRow.row (h : LRow sz d e base w0 w v xs) (hb : Below w0.heap.size w0 w) : ∃ A c, v = .slice A xs.length c ∧ xs.length ≤ c ∧ RowR sz d w A xs := by
  obtain ⟨flat, h1, h2⟩ := h.own
  exact row_of_own h1 rfl (h2 w hb)
theorem LRow.rowAt {A : Option Addr} {n c : Nat} (h : LRow sz d e base w0 w (.slice A n c) xs) (hb : Below w0.heap.size w0 w) : RowR sz d w A xs := by
  obtain ⟨A', c', e1, _, h2⟩ := h.row hb
  injection e1 with e1 _ _
  subst e1
  exact h2
end
section
variable {P : Program} {T : Nat → Option TI} {n : Nat} {F : Fm} {w : World} {o : Oper} {K : Fm → World → Prop}
end
end Go.Proofs.Ytjggjhgbobmkhaa

/- Steps: cuts of rows, shifts, and, or, copies of elements of several cells, of made rows. -/
namespace Go.Proofs.Ytjggjhgbobmkhaa
open Go.RowKit
set_option linter.unusedVariables false
set_option linter.unusedSimpArgs false
theorem addr_add0 (a : Addr) : a.add 0 = a := by unfold Addr.add; simp
def cutA (A : Option Addr) (m c s : Nat) : Option Addr := if c = m then A else A.map (·.add (m * s))
section
variable {P : Program} {T : Nat → Option TI} {n : Nat} {F : Fm} {w : World} {ops : Array Oper} {rest : List Oper} {o : Oper} {K : Fm → Prop} {C : World → Prop}
theorem elem_of {t e : Nat} (hu : P.underlying t = some (.slice e)) : P.underlying t = some (.slice (P.elem t)) := by
  have : P.elem t = e := by simp [Program.elem, hu]
  rw [this]; exact hu
theorem sliceH_run (hT : TabOk P T) (e s : Nat) {t : TypeId} {x y : Operand} {A : Option Addr} {l c : Nat} {ki : IntKind} {h : Int} (hop : o.op = .slice t x none (some y) none) (hx : ev F x = .slice A l c) (hy : ev F y = .int ki h) (h1 : sliceT T t e s = true) (h0 : 0 ≤ h) (hc : h ≤ c) :
    (execOp (ev F) o).run P w = .ok (.value (.slice A h.toNat c)) w := by
  obtain ⟨hu, hs⟩ := sliceT_ok (w := w) hT h1
  have he : P.elem t = e := by simp [Program.elem, hu]
  have hr := run_slice_h (P := P) (w := w) t A l c (elem_of hu) ki h h0 hc
  rw [he, hs] at hr
  have e1 : sliced A 0 h.toNat c s = .slice A h.toNat c := by
    unfold sliced
    cases A <;> simp [addr_add0]
  simp only [Result.andThen, e1] at hr
  have hr2 := run_sliceAt_slice (P := P) (w := w) t (.slice A l c) none (some (.int ki h)) none (elem_of hu)
  rw [hr] at hr2
  simp [execOp, hop, hx, hy, hr2]
theorem sliceL_run (hT : TabOk P T) (e s : Nat) {t : TypeId} {x y : Operand} {A : Option Addr} {l c : Nat} {ki : IntKind} {h : Int} (hop : o.op = .slice t x (some y) none none) (hx : ev F x = .slice A l c) (hy : ev F y = .int ki h) (h1 : sliceT T t e s = true) (h0 : 0 ≤ h) (hc : h ≤ l) :
    (execOp (ev F) o).run P w = .ok (.value (.slice (cutA A h.toNat c s) (l - h.toNat) (c - h.toNat))) w := by
  obtain ⟨hu, hs⟩ := sliceT_ok (w := w) hT h1
  have he : P.elem t = e := by simp [Program.elem, hu]
  have hr := run_slice_l (P := P) (w := w) t A l c (elem_of hu) ki h h0 hc
  rw [he, hs] at hr
  simp only [Result.andThen, sliced] at hr
  have hr2 := run_sliceAt_slice (P := P) (w := w) t (.slice A l c) (some (.int ki h)) none none (elem_of hu)
  rw [hr] at hr2
  simp [execOp, hop, hx, hy, hr2, cutA]
theorem wq_slL (hT : TabOk P T) (e s : Nat) {t : TypeId} {x y : Operand} {A : Option Addr} {l c : Nat} {ki : IntKind} {h : Int} (hop : o.op = .slice t x (some y) none none) (hx : ev F x = .slice A l c) (hy : ev F y = .int ki h) (h1 : sliceT T t e s = true) (hg : o.guard = none) {d : Nat} (hd : o.dst = some d) (hn : Nat.blt d n = true) (h0 : 0 ≤ h) (hc : h ≤ l)
    (k : wq P n ops C rest K (upd F d (.slice (cutA A h.toNat c s) (l - h.toNat) (c - h.toNat)))) : wq P n ops C (o :: rest) K F := wq_val hg hd hn (fun _ _ => sliceL_run hT e s hop hx hy h1 h0 hc) k
end
theorem RowR.take {α : Type} [Inhabited α] {sz : Nat} {d : Dec α} {w : World} {A : Option Addr} {xs : List α} (h : RowR sz d w A xs) (k : Nat) : RowR sz d w A (xs.take k) := by
  refine ⟨Nat.le_trans (by simp; omega) h.1, fun i hi => ?_⟩
  have hi' : i < xs.length := by simp at hi; omega
  obtain ⟨ad, cs, e1, e2, e3, e4⟩ := h.2 i hi'
  refine ⟨ad, cs, e1, e2, e3, ?_⟩
  rw [getElem!_pos _ i hi, List.getElem_take]
  rwa [getElem!_pos xs i hi'] at e4
theorem RowR.drop {α : Type} [Inhabited α] {sz : Nat} {d : Dec α} {w : World} {A : Option Addr} {xs : List α} (h : RowR sz d w A xs) (m c : Nat) (hc : xs.length ≤ c) : RowR sz d w (cutA A m c sz) (xs.drop m) := by
  refine ⟨Nat.le_trans (by simp) h.1, fun i hi => ?_⟩
  have hi' : m + i < xs.length := by simp at hi; omega
  obtain ⟨ad, cs, e1, e2, e3, e4⟩ := h.2 (m + i) hi'
  subst e1
  refine ⟨ad.add (m * sz), cs, by unfold cutA; rw [if_neg (by omega)]; rfl, e2, fun j u hu => ?_, ?_⟩
  · rw [add_add, show m * sz + (i * sz + j) = (m + i) * sz + j by rw [Nat.add_mul]; omega]
    exact e3 j u hu
  · rw [getElem!_pos _ i hi, List.getElem_drop]
    rwa [getElem!_pos xs (m + i) hi'] at e4
section
variable {P : Program} {T : Nat → Option TI} {n : Nat} {Q : Post} {F : Fm} {w : World} {ops : Array Oper} {rest : List Oper} {o : Oper} {K : Fm → Prop} {C : World → Prop}
theorem wl_slH (hT : TabOk P T) (e s : Nat) {t : TypeId} {x y : Operand} {A : Option Addr} {l c : Nat} {ki : IntKind} {h : Int} (hop : o.op = .slice t x none (some y) none) (hx : ev F x = .slice A l c) (hy : ev F y = .int ki h) (h1 : sliceT T t e s = true) (hg : o.guard = none) {d : Nat} (hd : o.dst = some d) (hn : Nat.blt d n = true) (h0 : 0 ≤ h) (hc : h ≤ c)
    (k : wl P n ops rest Q (upd F d (.slice A h.toNat c)) w) : wl P n ops (o :: rest) Q F w := wl_val hg hd hn (sliceH_run hT e s hop hx hy h1 h0 hc) k
theorem wl_slL (hT : TabOk P T) (e s : Nat) {t : TypeId} {x y : Operand} {A : Option Addr} {l c : Nat} {ki : IntKind} {h : Int} (hop : o.op = .slice t x (some y) none none) (hx : ev F x = .slice A l c) (hy : ev F y = .int ki h) (h1 : sliceT T t e s = true) (hg : o.guard = none) {d : Nat} (hd : o.dst = some d) (hn : Nat.blt d n = true) (h0 : 0 ≤ h) (hc : h ≤ l)
    (k : wl P n ops rest Q (upd F d (.slice (cutA A h.toNat c s) (l - h.toNat) (c - h.toNat))) w) : wl P n ops (o :: rest) Q F w := wl_val hg hd hn (sliceL_run hT e s hop hx hy h1 h0 hc) k
/-! ### shifts, bits -/
theorem shr_run {x y : Operand} {xt yt : TypeId} {k yk : IntKind} {a b : Int} (hop : o.op = .binOp .shr xt x y yt) (hx : ev F x = .int k a) (hy : ev F y = .int yk b) (h0 : 0 ≤ b) : (execOp (ev F) o).run P w = .ok (.value (.int k (a / 2 ^ min b.toNat k.bits))) w := by
  simp [execOp, hop, hx, hy, eqGuard, binOp, shift_shr_any k yk a b h0]
theorem shl_run {x y : Operand} {xt yt : TypeId} {k yk : IntKind} {a b : Int} (hop : o.op = .binOp .shl xt x y yt) (hx : ev F x = .int k a) (hy : ev F y = .int yk b) (h0 : 0 ≤ b) : (execOp (ev F) o).run P w = .ok (.value (.int k (k.wrap (a * 2 ^ min b.toNat k.bits)))) w := by
  simp [execOp, hop, hx, hy, eqGuard, binOp, shift_shl_any k yk a b h0]
def isBit : BinOp → Bool
  | .and | .or | .xor | .andNot => true
  | _ => false
theorem bits_run {op : BinOp} {x y : Operand} {xt yt : TypeId} {k : IntKind} {a b : Int} (hop : o.op = .binOp op xt x y yt) (hx : ev F x = .int k a) (hy : ev F y = .int k b) (hb : isBit op = true) : (execOp (ev F) o).run P w = .ok (.value (.int k (bits op k a b))) w := by
  cases op <;> simp only [isBit, Bool.false_eq_true] at hb <;> simp [execOp, hop, hx, hy, eqGuard, binOp, intBits_and, intBits_or, intBits_xor, intBits_andNot]
theorem wl_shr {x y : Operand} {xt yt : TypeId} {k yk : IntKind} {a b r : Int} (hr : a / 2 ^ min b.toNat k.bits = r) (hop : o.op = .binOp .shr xt x y yt) (hx : ev F x = .int k a) (hy : ev F y = .int yk b) (h0 : 0 ≤ b) (hg : o.guard = none) {d : Nat} (hd : o.dst = some d) (hn : Nat.blt d n = true)
    (kk : wl P n ops rest Q (upd F d (.int k r)) w) : wl P n ops (o :: rest) Q F w := wl_val hg hd hn (by rw [shr_run hop hx hy h0, hr]) kk
theorem wl_shl {x y : Operand} {xt yt : TypeId} {k yk : IntKind} {a b r : Int} (hr : k.wrap (a * 2 ^ min b.toNat k.bits) = r) (hop : o.op = .binOp .shl xt x y yt) (hx : ev F x = .int k a) (hy : ev F y = .int yk b) (h0 : 0 ≤ b) (hg : o.guard = none) {d : Nat} (hd : o.dst = some d) (hn : Nat.blt d n = true)
    (kk : wl P n ops rest Q (upd F d (.int k r)) w) : wl P n ops (o :: rest) Q F w := wl_val hg hd hn (by rw [shl_run hop hx hy h0, hr]) kk
theorem wl_bit {op : BinOp} {x y : Operand} {xt yt : TypeId} {k : IntKind} {a b r : Int} (hr : bits op k a b = r) (hop : o.op = .binOp op xt x y yt) (hx : ev F x = .int k a) (hy : ev F y = .int k b) (hb : isBit op = true) (hg : o.guard = none) {d : Nat} (hd : o.dst = some d) (hn : Nat.blt d n = true)
    (kk : wl P n ops rest Q (upd F d (.int k r)) w) : wl P n ops (o :: rest) Q F w := wl_val hg hd hn (by rw [bits_run hop hx hy hb, hr]) kk
theorem wl_addr {x y : Operand} {xt yt : TypeId} {k : IntKind} {a b r : Int} (hr : k.wrap (a + b) = r) (hop : o.op = .binOp .add xt x y yt) (hx : ev F x = .int k a) (hy : ev F y = .int k b) (hg : o.guard = none) {d : Nat} (hd : o.dst = some d) (hn : Nat.blt d n = true)
    (kk : wl P n ops rest Q (upd F d (.int k r)) w) : wl P n ops (o :: rest) Q F w := wl_addw hop hx hy hg hd hn (by rw [hr]; exact kk)
/-! ### copies -/
theorem copy_run (hT : TabOk P T) (e s b : Nat) {t t2 t' : TypeId} {c : Call} {x y : Operand} {g off dl dc sl sc m : Nat} {a : Addr} {cur : List Value} (cs : List Value) (hb : w.heap[g]? = some (.cells cur.toArray t' (0, 0))) (hop : o.op = .call c) (hcal : c.callee = .builtin .copy) (hargs : c.args.toList = [x, y]) (htys : c.argTypes.toList = [t, t2])
    (hx : ev F x = .slice (some ⟨g, off, none⟩) dl dc) (hy : ev F y = .slice (some a) sl sc) (h1 : appT T t e s b = true) (hm : m = min sl dl)
    (hl : cs.length = m * s) (hsrc : ∀ j v, cs[j]? = some v → w.cell? (a.add j) = some v) (hfit : off + cs.length ≤ cur.length) (hone : ∀ v ∈ cs, v.oneCell' = true) :
    ∃ w1, (execOp (ev F) o).run P w = .ok (.value (goInt m)) w1 ∧ Put w w1 g (cur.take off ++ cs ++ cur.drop (off + cs.length)) t' := by
  obtain ⟨hu, j, z, hj, hz, hs, hby, hzs⟩ := appT_ok hT h1
  obtain ⟨callee, ⟨args⟩, ⟨tys⟩⟩ := c
  simp only at hcal hargs htys
  subst hcal hargs htys
  have hl2 := run_loadCells_list (P := P) w a cs hsrc
  have hst := run_storeCells_at P g off t' cs 0 cur.toArray w hb (by simpa using hfit) hone
  rw [hl] at hl2
  have hmm : Nat.min sl dl = m := hm.symm
  refine ⟨_, ?_, ⟨by simp [World.setRow], setRow_heap w g cur.toArray _ t' _ hb, ⟨rfl, rfl, rfl, by simp [World.setRow], fun k _ hk => setRow_other w g k _ (fun e => hk (by simp [e]))⟩⟩⟩
  simp [execOp, hop, resolve, invoke, builtin, hx, hy, Builtin.copy_, run_underlying hu, Builtin.lenOf, Builtin.firstCells, sizeOf, typeInfo, hj, hs, hmm, hl2, hst]
theorem wl_cp (hT : TabOk P T) (e s b : Nat) {t t2 t' : TypeId} {c : Call} {x y : Operand} {g off dl dc sl sc m : Nat} {a : Addr} {cur : List Value} (cs : List Value) (hb : w.heap[g]? = some (.cells cur.toArray t' (0, 0))) (hop : o.op = .call c) (hcal : c.callee = .builtin .copy) (hargs : c.args.toList = [x, y]) (htys : c.argTypes.toList = [t, t2])
    (hx : ev F x = .slice (some ⟨g, off, none⟩) dl dc) (hy : ev F y = .slice (some a) sl sc) (h1 : appT T t e s b = true) (hm : m = min sl dl) (hg : o.guard = none) {d : Nat} (hd : o.dst = some d) (hn : Nat.blt d n = true)
    (hl : cs.length = m * s) (hsrc : ∀ j v, cs[j]? = some v → w.cell? (a.add j) = some v) (hfit : off + cs.length ≤ cur.length) (hone : ∀ v ∈ cs, v.oneCell' = true)
    (k : ∀ w1, Put w w1 g (cur.take off ++ cs ++ cur.drop (off + cs.length)) t' → wl P n ops rest Q (upd F d (goInt m)) w1) : wl P n ops (o :: rest) Q F w := by
  obtain ⟨w1, hr, hp⟩ := copy_run hT e s b cs hb hop hcal hargs htys hx hy h1 hm hl hsrc hfit hone
  exact wl_val hg hd hn hr (k w1 hp)
end
end Go.Proofs.Ytjggjhgbobmkhaa
