/- weathervanelaw03.is: a set is just the numbers of a row of truths. -/
import Derived.Test.YtkmnhkfgjadppaaDoorN03
namespace Go.Proofs.YtkmnhkfgjadppaaDoor
open Go.RowKit
set_option linter.unusedVariables false
set_option linter.unusedSimpArgs false
set_option maxRecDepth 100000
def numsU (us : List Bool) (i : Nat) : List Int := ((List.range i).filter fun j => us[j]!).map fun (j : Nat) => (j : Int)
theorem numsU_next (us : List Bool) (i : Nat) : numsU us (i + 1) = numsU us i ++ (if us[i]! then [(i : Int)] else []) := by
  unfold numsU
  rw [List.range_succ, List.filter_append, List.map_append]
  congr 1
  cases h : us[i]!
  · rw [List.filter_cons_of_neg (by rw [h]; simp), List.filter_nil]; rfl
  · rw [List.filter_cons_of_pos h, List.filter_nil]; rfl
theorem numsU_split (us : List Bool) (i : Nat) : ∀ n, i ≤ n → ∃ r, numsU us n = numsU us i ++ r
  | 0, h => by
    obtain rfl : i = 0 := by omega
    exact ⟨[], (List.append_nil _).symm⟩
  | n + 1, h => by
    rcases Nat.lt_or_ge n i with h1 | h1
    · obtain rfl : i = n + 1 := by omega
      exact ⟨[], by simp⟩
    · obtain ⟨r, hr⟩ := numsU_split us i n h1
      exact ⟨r ++ (if us[n]! then [(n : Int)] else []), by rw [numsU_next, hr, List.append_assoc]⟩
theorem numsU_len (us : List Bool) (i : Nat) : (numsU us i).length ≤ i := by
  unfold numsU
  have := List.length_filter_le (fun j => us[j]!) (List.range i)
  simpa using this
/-- The next number that is in it. -/
theorem numsU_get {us : List Bool} {i n : Nat} (hi : i < n) (h : us[i]! = true) : (numsU us i).length < (numsU us n).length ∧ (numsU us n)[(numsU us i).length]! = (i : Int) := by
  obtain ⟨r, hr⟩ := numsU_split us (i + 1) n hi
  rw [numsU_next, h, if_pos rfl] at hr
  rw [hr]
  refine ⟨by simp, ?_⟩
  rw [getElem!_pos _ _ (by simp)]
  simp
theorem numsB_U {S : List Blk} {us : List Bool} (hw : WFB S) (h : ∀ n, memB S n = lk us n) : numsB S = numsU us us.length := by
  refine numsB_is hw ?_ ?_ fun m => ?_
  · unfold numsU
    refine List.Pairwise.map _ (fun a c h => ?_) ((List.pairwise_lt_range (n := us.length)).filter _)
    show (a : Int) < (c : Int)
    omega
  · intro x hx
    obtain ⟨j, _, rfl⟩ := List.mem_map.1 hx
    omega
  · rw [h]
    rw [Bool.eq_iff_iff, decide_eq_true_eq]
    unfold numsU
    rw [List.mem_map]
    constructor
    · intro hm
      rcases Nat.lt_or_ge m us.length with h1 | h1
      · refine ⟨m, List.mem_filter.2 ⟨List.mem_range.2 h1, ?_⟩, rfl⟩
        rwa [lk_get h1] at hm
      · rw [lk_out h1] at hm; cases hm
    · rintro ⟨j, hj, e⟩
      obtain ⟨h1, h2⟩ := List.mem_filter.1 hj
      have h1 := List.mem_range.1 h1
      obtain rfl : j = m := by omega
      rw [lk_get h1]
      exact h2
set_option maxHeartbeats 16000000 in
theorem pIs {b1 g : Nat} {w : World} {S : List Blk} {f : List Nat} (hP : PSet b1 g w S f) (hT : Tab w) {ga : Nat} {us : List Bool} (ha : w.heap[ga]? = some (.cells (vb us).toArray 4 (0, 0))) (hl : us.length = 400) (hm : ∀ n, memB S n = lk us n) :
    Calls Tryd.prog 23 #[.pointer (some ⟨g, 0, none⟩), .slice (some ⟨ga, 0, none⟩) 400 400] w fun e w' => e = .returned (.bool true) ∧ Below w.heap.size w w' := by
  have hfew := few hP.wf hm hl
  have hnum := numsB_U hP.wf hm
  rw [hl] at hnum
  have hcell : ∀ {W : World}, Below w.heap.size w W → ∀ i, i < 400 → W.cell? ((⟨ga, 0, none⟩ : Addr).add (i * 1)) = some (.bool us[i]!) := fun hB i hi => by
    rw [Nat.mul_one, add_zero]
    refine cell_blk (blk_up hB ha) ?_
    simp only [vb, List.getElem?_toArray, List.getElem?_map]
    rw [List.getElem?_eq_getElem (by omega), getElem!_pos us i (by omega)]
    rfl
  refine enterR (args := [.pointer (some ⟨g, 0, none⟩), .slice (some ⟨ga, 0, none⟩) 400 400]) tabOk Tryd.func23 rfl Tryd.ntmps23 rfl ?_; conv => whnf
  (repeat' (first | (refine wl_add rfl rfl rfl rfl rfl rfl (by omega) (by omega) (run_l tabOk ?_); conv => whnf) | (refine wl_sub rfl rfl rfl rfl rfl rfl (by omega) (by omega) (run_l tabOk ?_); conv => whnf) | (refine wl_cvA tabOk rfl rfl rfl (by simp only [inK]; omega) rfl rfl rfl (run_l tabOk ?_); conv => whnf) | (refine wl_cvB tabOk rfl rfl rfl rfl rfl rfl (run_l tabOk ?_); conv => whnf) | (refine wl_rem rfl rfl rfl rfl rfl rfl (by omega) (by omega) (fun r hr hr0 hr1 hr2 => run_l tabOk ?_); conv => whnf) | (refine wl_quo rfl rfl rfl rfl rfl rfl (by omega) (by omega) (by simp only [inK]; omega) (run_l tabOk ?_); conv => whnf) | (refine wl_mul rfl rfl rfl rfl rfl rfl (by omega) (by omega) (run_l tabOk ?_); conv => whnf) | (refine gs_dt (by first | assumption | omega) ?_; conv => whnf) | (refine gs_df (by first | assumption | omega) ?_; conv => whnf) | (refine gs_t (by assumption) ?_; conv => whnf) | (refine gs_f (by assumption) ?_; conv => whnf) | (refine gs_d (fun hg => ?_) (fun hg => ?_) <;> conv => whnf) | (refine gs_n (fun hg => ?_) (fun hg => ?_) <;> conv => whnf) | (refine gs_nb (fun hg => ?_) (fun hg => ?_) <;> conv => whnf) | (refine gs_b (fun hg => ?_) (fun hg => ?_) <;> conv => whnf) | refine fin1 rfl rfl ?_))
  refine wl_C fn16 (pAll hP (by omega) hT) rfl rfl rfl rfl rfl rfl rfl ?_
  rintro _ w1 ⟨V, rfl, hI, hB1⟩
  rw [hnum] at hI
  obtain ⟨AV, cV, rfl, _, hr⟩ := hI.row
  have hP1 := hP.up hB1
  have hnl := numsU_len us 400
  refine ⟨_, rfl, run_l tabOk ?_⟩
  conv => whnf
  (repeat' (first | (refine wl_add rfl rfl rfl rfl rfl rfl (by omega) (by omega) (run_l tabOk ?_); conv => whnf) | (refine wl_sub rfl rfl rfl rfl rfl rfl (by omega) (by omega) (run_l tabOk ?_); conv => whnf) | (refine wl_cvA tabOk rfl rfl rfl (by simp only [inK]; omega) rfl rfl rfl (run_l tabOk ?_); conv => whnf) | (refine wl_cvB tabOk rfl rfl rfl rfl rfl rfl (run_l tabOk ?_); conv => whnf) | (refine wl_rem rfl rfl rfl rfl rfl rfl (by omega) (by omega) (fun r hr hr0 hr1 hr2 => run_l tabOk ?_); conv => whnf) | (refine wl_quo rfl rfl rfl rfl rfl rfl (by omega) (by omega) (by simp only [inK]; omega) (run_l tabOk ?_); conv => whnf) | (refine wl_mul rfl rfl rfl rfl rfl rfl (by omega) (by omega) (run_l tabOk ?_); conv => whnf) | (refine gs_dt (by first | assumption | omega) ?_; conv => whnf) | (refine gs_df (by first | assumption | omega) ?_; conv => whnf) | (refine gs_t (by assumption) ?_; conv => whnf) | (refine gs_f (by assumption) ?_; conv => whnf) | (refine gs_d (fun hg => ?_) (fun hg => ?_) <;> conv => whnf) | (refine gs_n (fun hg => ?_) (fun hg => ?_) <;> conv => whnf) | (refine gs_nb (fun hg => ?_) (fun hg => ?_) <;> conv => whnf) | (refine gs_b (fun hg => ?_) (fun hg => ?_) <;> conv => whnf) | refine fin1 rfl rfl ?_))
  refine lp_loop tabOk (X := Nat) (fun i => [(0, .pointer (some ⟨g, 0, none⟩)), (1, .slice (some ⟨ga, 0, none⟩) 400 400), (5, .slice AV (numsU us 400).length cV), (6, .int .i64 (numsU us i).length), (7, .int .i64 i)])
    (fun i wr => i ≤ 400 ∧ Below w1.heap.size w1 wr) (fun i => 400 - i) 0 ⟨rfl, rfl, rfl, rfl, rfl, trivial⟩ ⟨by omega, Below.refl _ _⟩ ?_
  intro i G wr ⟨hi, hB⟩
  conv => whnf
  have hil' := numsU_len us i
  by_cases hil : i < 400
  · have hPr := hP1.up hB
    have hc := hcell (bup hB1 hB) i hil
    have hHas : ∀ w', Bw wr w' → Calls Tryd.prog 17 #[.pointer (some ⟨g, 0, none⟩), .int .i64 (i : Int)] w' fun e w'' => e = .returned (.bool us[i]!) ∧ Below w'.heap.size w' w'' := fun w' hw' => by
      have := pHas (hPr.up hw') (i : Int) (by omega) (by omega)
      rwa [decide_eq_true (by omega : (0 : Int) ≤ (i : Int)), Bool.true_and, Int.toNat_natCast, hm, lk_get (by omega)] at this
    have hnext := numsU_next us i
    have hget := @numsU_get us i 400 hil
    obtain ⟨uv, huv⟩ : ∃ u, u = us[i]! := ⟨_, rfl⟩
    rw [← huv] at hc hHas hnext hget
    (repeat' (first | (refine wl_add rfl rfl rfl rfl rfl rfl (by omega) (by omega) (run_l tabOk ?_); conv => whnf) | (refine wl_sub rfl rfl rfl rfl rfl rfl (by omega) (by omega) (run_l tabOk ?_); conv => whnf) | (refine wl_cvA tabOk rfl rfl rfl (by simp only [inK]; omega) rfl rfl rfl (run_l tabOk ?_); conv => whnf) | (refine wl_cvB tabOk rfl rfl rfl rfl rfl rfl (run_l tabOk ?_); conv => whnf) | (refine wl_rem rfl rfl rfl rfl rfl rfl (by omega) (by omega) (fun r hr hr0 hr1 hr2 => run_l tabOk ?_); conv => whnf) | (refine wl_quo rfl rfl rfl rfl rfl rfl (by omega) (by omega) (by simp only [inK]; omega) (run_l tabOk ?_); conv => whnf) | (refine wl_mul rfl rfl rfl rfl rfl rfl (by omega) (by omega) (run_l tabOk ?_); conv => whnf) | (refine gs_dt (by first | assumption | omega) ?_; conv => whnf) | (refine gs_df (by first | assumption | omega) ?_; conv => whnf) | (refine gs_t (by assumption) ?_; conv => whnf) | (refine gs_f (by assumption) ?_; conv => whnf) | (refine gs_d (fun hg => ?_) (fun hg => ?_) <;> conv => whnf) | (refine gs_n (fun hg => ?_) (fun hg => ?_) <;> conv => whnf) | (refine gs_nb (fun hg => ?_) (fun hg => ?_) <;> conv => whnf) | (refine gs_b (fun hg => ?_) (fun hg => ?_) <;> conv => whnf) | refine fin1 rfl rfl ?_))
    refine wc_qr tabOk mixed (by kernel_rfl) ?_; (conv => whnf)
    (repeat' (first | (refine wq_L tabOk rfl rfl rfl rfl rfl rfl hc (run_q tabOk ?_); conv => whnf) | (refine wq_Xn tabOk 4 1 rfl rfl rfl rfl rfl rfl rfl (by omega) (run_q tabOk ?_); conv => whnf) | (refine wq_C fn17 hHas rfl rfl rfl rfl rfl rfl rfl (run_q tabOk ?_); (conv => whnf)) | (refine wq_add rfl rfl rfl rfl rfl rfl (by omega) (by omega) (run_q tabOk ?_); conv => whnf) | (refine wq_sub rfl rfl rfl rfl rfl rfl (by omega) (by omega) (run_q tabOk ?_); conv => whnf) | (refine wq_cvA tabOk rfl rfl rfl (by simp only [inK]; omega) rfl rfl rfl (run_q tabOk ?_); conv => whnf) | (refine wq_cvB tabOk rfl rfl rfl rfl rfl rfl (run_q tabOk ?_); conv => whnf) | (refine wq_rem rfl rfl rfl rfl rfl rfl (by omega) (by omega) (fun r hr hr0 hr1 hr2 => run_q tabOk ?_); conv => whnf) | (refine wq_quo rfl rfl rfl rfl rfl rfl (by omega) (by omega) (by simp only [inK]; omega) (run_q tabOk ?_); conv => whnf) | (refine wq_mul rfl rfl rfl rfl rfl rfl (by omega) (by omega) (run_q tabOk ?_); conv => whnf) | (refine gs_dt (by first | assumption | omega) ?_; conv => whnf) | (refine gs_df (by first | assumption | omega) ?_; conv => whnf) | (refine gs_t (by assumption) ?_; conv => whnf) | (refine gs_f (by assumption) ?_; conv => whnf) | (refine gs_d (fun hg => ?_) (fun hg => ?_) <;> conv => whnf) | (refine gs_n (fun hg => ?_) (fun hg => ?_) <;> conv => whnf) | (refine gs_nb (fun hg => ?_) (fun hg => ?_) <;> conv => whnf) | (refine gs_b (fun hg => ?_) (fun hg => ?_) <;> conv => whnf)))
    intro w2 hB2
    conv => whnf
    have hc2 := cell_up hB2 hc
    have hBw := bup hB hB2
    cases uv
    · (repeat' (first | (refine wl_L tabOk rfl rfl rfl rfl rfl rfl hc2 (run_l tabOk ?_); conv => whnf) | (refine wl_Xn tabOk 4 1 rfl rfl rfl rfl rfl rfl rfl (by omega) (run_l tabOk ?_); conv => whnf) | (refine wl_add rfl rfl rfl rfl rfl rfl (by omega) (by omega) (run_l tabOk ?_); conv => whnf) | (refine wl_sub rfl rfl rfl rfl rfl rfl (by omega) (by omega) (run_l tabOk ?_); conv => whnf) | (refine wl_cvA tabOk rfl rfl rfl (by simp only [inK]; omega) rfl rfl rfl (run_l tabOk ?_); conv => whnf) | (refine wl_cvB tabOk rfl rfl rfl rfl rfl rfl (run_l tabOk ?_); conv => whnf) | (refine wl_rem rfl rfl rfl rfl rfl rfl (by omega) (by omega) (fun r hr hr0 hr1 hr2 => run_l tabOk ?_); conv => whnf) | (refine wl_quo rfl rfl rfl rfl rfl rfl (by omega) (by omega) (by simp only [inK]; omega) (run_l tabOk ?_); conv => whnf) | (refine wl_mul rfl rfl rfl rfl rfl rfl (by omega) (by omega) (run_l tabOk ?_); conv => whnf) | (refine gs_dt (by first | assumption | omega) ?_; conv => whnf) | (refine gs_df (by first | assumption | omega) ?_; conv => whnf) | (refine gs_t (by assumption) ?_; conv => whnf) | (refine gs_f (by assumption) ?_; conv => whnf) | (refine gs_d (fun hg => ?_) (fun hg => ?_) <;> conv => whnf) | (refine gs_n (fun hg => ?_) (fun hg => ?_) <;> conv => whnf) | (refine gs_nb (fun hg => ?_) (fun hg => ?_) <;> conv => whnf) | (refine gs_b (fun hg => ?_) (fun hg => ?_) <;> conv => whnf) | refine fin1 rfl rfl ?_))
      refine ⟨i + 1, ⟨rfl, rfl, rfl, ?_, rfl, trivial⟩, ⟨by omega, hBw⟩, by omega⟩
      show Value.int _ _ = Value.int _ _
      rw [hnext]
      simp
    · obtain ⟨hg1, hg2⟩ := hget rfl
      obtain ⟨o, ad, ho, rfl, f0, _, _⟩ := intsE (hr.up (stays_I _) hBw) (numsU us i).length hg1
      have eo : o = (i : Int) := ho.out.symm.trans hg2
      subst eo
      (repeat' (first | (refine wl_L tabOk rfl rfl rfl rfl rfl rfl hc2 (run_l tabOk ?_); conv => whnf) | (refine wl_L tabOk rfl rfl rfl rfl rfl rfl f0 (run_l tabOk ?_); conv => whnf) | (refine wl_Xn tabOk 4 1 rfl rfl rfl rfl rfl rfl rfl (by omega) (run_l tabOk ?_); conv => whnf) | (refine wl_Xn tabOk 3 1 rfl rfl rfl rfl rfl rfl rfl (by omega) (run_l tabOk ?_); conv => whnf) | (refine wl_add rfl rfl rfl rfl rfl rfl (by omega) (by omega) (run_l tabOk ?_); conv => whnf) | (refine wl_sub rfl rfl rfl rfl rfl rfl (by omega) (by omega) (run_l tabOk ?_); conv => whnf) | (refine wl_cvA tabOk rfl rfl rfl (by simp only [inK]; omega) rfl rfl rfl (run_l tabOk ?_); conv => whnf) | (refine wl_cvB tabOk rfl rfl rfl rfl rfl rfl (run_l tabOk ?_); conv => whnf) | (refine wl_rem rfl rfl rfl rfl rfl rfl (by omega) (by omega) (fun r hr hr0 hr1 hr2 => run_l tabOk ?_); conv => whnf) | (refine wl_quo rfl rfl rfl rfl rfl rfl (by omega) (by omega) (by simp only [inK]; omega) (run_l tabOk ?_); conv => whnf) | (refine wl_mul rfl rfl rfl rfl rfl rfl (by omega) (by omega) (run_l tabOk ?_); conv => whnf) | (refine gs_dt (by first | assumption | omega) ?_; conv => whnf) | (refine gs_df (by first | assumption | omega) ?_; conv => whnf) | (refine gs_t (by assumption) ?_; conv => whnf) | (refine gs_f (by assumption) ?_; conv => whnf) | (refine gs_d (fun hg => ?_) (fun hg => ?_) <;> conv => whnf) | (refine gs_n (fun hg => ?_) (fun hg => ?_) <;> conv => whnf) | (refine gs_nb (fun hg => ?_) (fun hg => ?_) <;> conv => whnf) | (refine gs_b (fun hg => ?_) (fun hg => ?_) <;> conv => whnf) | refine fin1 rfl rfl ?_))
      refine ⟨i + 1, ⟨rfl, rfl, rfl, ?_, rfl, trivial⟩, ⟨by omega, hBw⟩, by omega⟩
      show Value.int _ _ = Value.int _ _
      rw [hnext]
      simp
  · have e : i = 400 := by omega
    subst e
    (repeat' (first | (refine wl_add rfl rfl rfl rfl rfl rfl (by omega) (by omega) (run_l tabOk ?_); conv => whnf) | (refine wl_sub rfl rfl rfl rfl rfl rfl (by omega) (by omega) (run_l tabOk ?_); conv => whnf) | (refine wl_cvA tabOk rfl rfl rfl (by simp only [inK]; omega) rfl rfl rfl (run_l tabOk ?_); conv => whnf) | (refine wl_cvB tabOk rfl rfl rfl rfl rfl rfl (run_l tabOk ?_); conv => whnf) | (refine wl_rem rfl rfl rfl rfl rfl rfl (by omega) (by omega) (fun r hr hr0 hr1 hr2 => run_l tabOk ?_); conv => whnf) | (refine wl_quo rfl rfl rfl rfl rfl rfl (by omega) (by omega) (by simp only [inK]; omega) (run_l tabOk ?_); conv => whnf) | (refine wl_mul rfl rfl rfl rfl rfl rfl (by omega) (by omega) (run_l tabOk ?_); conv => whnf) | (refine gs_dt (by first | assumption | omega) ?_; conv => whnf) | (refine gs_df (by first | assumption | omega) ?_; conv => whnf) | (refine gs_t (by assumption) ?_; conv => whnf) | (refine gs_f (by assumption) ?_; conv => whnf) | (refine gs_d (fun hg => ?_) (fun hg => ?_) <;> conv => whnf) | (refine gs_n (fun hg => ?_) (fun hg => ?_) <;> conv => whnf) | (refine gs_nb (fun hg => ?_) (fun hg => ?_) <;> conv => whnf) | (refine gs_b (fun hg => ?_) (fun hg => ?_) <;> conv => whnf) | refine fin1 rfl rfl ?_))
    refine wl_C fn18 (pLen (hP1.up hB) (by omega)) rfl rfl rfl rfl rfl rfl rfl ?_
    rintro _ w3 ⟨rfl, hB3⟩
    rw [hnum]
    refine ⟨_, rfl, run_l tabOk ?_⟩
    conv => whnf
    (repeat' (first | (refine wl_add rfl rfl rfl rfl rfl rfl (by omega) (by omega) (run_l tabOk ?_); conv => whnf) | (refine wl_sub rfl rfl rfl rfl rfl rfl (by omega) (by omega) (run_l tabOk ?_); conv => whnf) | (refine wl_cvA tabOk rfl rfl rfl (by simp only [inK]; omega) rfl rfl rfl (run_l tabOk ?_); conv => whnf) | (refine wl_cvB tabOk rfl rfl rfl rfl rfl rfl (run_l tabOk ?_); conv => whnf) | (refine wl_rem rfl rfl rfl rfl rfl rfl (by omega) (by omega) (fun r hr hr0 hr1 hr2 => run_l tabOk ?_); conv => whnf) | (refine wl_quo rfl rfl rfl rfl rfl rfl (by omega) (by omega) (by simp only [inK]; omega) (run_l tabOk ?_); conv => whnf) | (refine wl_mul rfl rfl rfl rfl rfl rfl (by omega) (by omega) (run_l tabOk ?_); conv => whnf) | (refine gs_dt (by first | assumption | omega) ?_; conv => whnf) | (refine gs_df (by first | assumption | omega) ?_; conv => whnf) | (refine gs_t (by assumption) ?_; conv => whnf) | (refine gs_f (by assumption) ?_; conv => whnf) | (refine gs_d (fun hg => ?_) (fun hg => ?_) <;> conv => whnf) | (refine gs_n (fun hg => ?_) (fun hg => ?_) <;> conv => whnf) | (refine gs_nb (fun hg => ?_) (fun hg => ?_) <;> conv => whnf) | (refine gs_b (fun hg => ?_) (fun hg => ?_) <;> conv => whnf) | refine fin1 rfl rfl ?_))
    exact ⟨retB (by simp), bup hB1 (bup hB hB3)⟩
end Go.Proofs.YtkmnhkfgjadppaaDoor
