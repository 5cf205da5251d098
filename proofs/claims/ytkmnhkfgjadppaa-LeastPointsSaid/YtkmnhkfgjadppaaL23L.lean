/- least.Look. -/
import Derived.Test.YtkmnhkfgjadppaaK23
namespace Go.Proofs.Ytkmnhkfgjadppaa
open Go.RowKit
set_option linter.unusedVariables false
set_option linter.unusedSimpArgs false
set_option maxRecDepth 100000
def lensF (ps : List (List Int)) : List Nat := ps.map fun p => nearF p.length
def mostOf (ps : List (List Int)) : Nat := ps.foldl (fun m p => max m p.length) 0
theorem most_take (ps : List (List Int)) {m : Nat} (h : ∀ p ∈ ps, p.length ≤ m) : ∀ k, (ps.take k).foldl (fun m p => max m p.length) 0 ≤ m := by
  intro k
  have : ∀ (l : List (List Int)) (z : Nat), z ≤ m → (∀ p ∈ l, p.length ≤ m) → l.foldl (fun m p => max m p.length) z ≤ m := by
    intro l
    induction l with
    | nil => intro z hz _; exact hz
    | cons p l ih => intro z hz hl; exact ih _ (by show max z p.length ≤ m; have := hl p (by simp); omega) (fun q hq => hl q (by simp [hq]))
  exact this _ 0 (Nat.zero_le _) (fun p hp => h p (List.mem_of_mem_take hp))
set_option maxHeartbeats 4000000 in
theorem leastLook (s t : Sys) (ps : List (List Int)) (A1 A2 B1 B2 A : Option Addr) (c1 c2 d1 d2 c : Nat) (w : World) (h1 : s.cells.length ≤ 9223372036854775807 ∧ s.cons.length ≤ 9223372036854775807 ∧ t.cells.length ≤ 9223372036854775807 ∧ t.cons.length ≤ 9223372036854775807) (hp : RRows w A ps) (hps : ps.length ≤ 1000000) :
    Calls Try.prog 13 #[.agg #[.int .i64 s.vars, .slice A1 s.cells.length c1, .slice A2 s.cons.length c2], .agg #[.int .i64 t.vars, .slice B1 t.cells.length d1, .slice B2 t.cons.length d2], .slice A ps.length c] w fun e w' => ∃ r1 r2 r3, e = .returned (.agg #[.float .f64 r1, .float .f64 r2, .float .f64 r3, .int .i64 (mostOf ps)]) ∧
      FRel (shareO t.vars s.vars) r1 ∧ FRel (shareO t.cons.length s.cons.length) r2 ∧ FRel (meanO (lensF ps)) r3 ∧ Below w.heap.size w w' := by
  refine enterR (args := [.agg #[.int .i64 s.vars, .slice A1 s.cells.length c1, .slice A2 s.cons.length c2], .agg #[.int .i64 t.vars, .slice B1 t.cells.length d1, .slice B2 t.cons.length d2], .slice A ps.length c]) tabOk Try.func13 rfl Try.ntmps13 rfl ?_; conv => whnf
  refine wl_box rfl rfl rfl rfl rfl rfl ?_
  intro g1 w1 hn1
  refine run_l tabOk ?_
  conv => whnf
  refine wl_box rfl rfl rfl rfl rfl rfl ?_
  intro g2 w2 hn2
  refine run_l tabOk ?_
  conv => whnf
  refine wl_alloc tabOk rfl rfl rfl rfl rfl rfl ?_
  intro g3 w3 hn3
  have hb1 := hn3.old (hn2.old hn1.blk)
  have hb2 := hn3.old hn2.blk
  have hb3 := hn3.blk
  have hB := hn3.up (hn2.up hn1.below)
  have hg3 : w.heap.size ≤ g3 := by have := hn1.at_; have := hn1.size; have := hn2.size; have := hn3.at_; omega
  clear hn1 hn2 hn3
  refine run_l tabOk ?_
  conv => whnf
  (repeat' (first | (refine wl_add rfl rfl rfl rfl rfl rfl (by omega) (by omega) (run_l tabOk ?_); conv => whnf) | (refine wl_sub rfl rfl rfl rfl rfl rfl (by omega) (by omega) (run_l tabOk ?_); conv => whnf) | (refine wl_cvA tabOk rfl rfl rfl (by simp only [inK]; omega) rfl rfl rfl (run_l tabOk ?_); conv => whnf) | (refine wl_cvB tabOk rfl rfl rfl rfl rfl rfl (run_l tabOk ?_); conv => whnf) | (refine wl_rem rfl rfl rfl rfl rfl rfl (by omega) (by omega) (fun r hr hr0 hr1 hr2 => run_l tabOk ?_); conv => whnf) | (refine wl_quo rfl rfl rfl rfl rfl rfl (by omega) (by omega) (by simp only [inK]; omega) (run_l tabOk ?_); conv => whnf) | (refine wl_mul rfl rfl rfl rfl rfl rfl (by omega) (by omega) (run_l tabOk ?_); conv => whnf) | (refine gs_dt (by first | assumption | omega) ?_; conv => whnf) | (refine gs_df (by first | assumption | omega) ?_; conv => whnf) | (refine gs_t (by assumption) ?_; conv => whnf) | (refine gs_f (by assumption) ?_; conv => whnf) | (refine gs_d (fun hg => ?_) (fun hg => ?_) <;> conv => whnf) | (refine gs_n (fun hg => ?_) (fun hg => ?_) <;> conv => whnf) | (refine gs_nb (fun hg => ?_) (fun hg => ?_) <;> conv => whnf) | (refine gs_b (fun hg => ?_) (fun hg => ?_) <;> conv => whnf) | refine fin1 rfl rfl ?_))
  refine lp_loop tabOk (X := Nat × Option Addr × Nat) (fun x => [(3, .pointer (some ⟨g1, 0, none⟩)), (4, .pointer (some ⟨g2, 0, none⟩)), (6, .pointer (some ⟨g3, 0, none⟩)), (7, .slice x.2.1 x.1 x.2.2), (8, .int .i64 ((ps.take x.1).foldl (fun m p => max m p.length) 0 : Nat)), (11, .slice A ps.length c), (12, .int .i64 ps.length), (13, .int .i64 x.1)])
    (fun x wr => x.1 ≤ ps.length ∧ Below w3.heap.size w3 wr ∧ GRow 1 dF 39 w3.heap.size wr (.slice x.2.1 x.1 x.2.2) (lensF (ps.take x.1)) []) (fun x => ps.length - x.1) (0, none, 0) ⟨rfl, rfl, rfl, rfl, rfl, rfl, rfl, rfl, trivial⟩ ⟨by simp, Below.refl _ _, GRow.nil ..⟩ ?_
  rintro ⟨i, D, dc⟩ G wr ⟨hi, hBr, hrow⟩
  simp only at hi hBr hrow
  conv => whnf
  by_cases hlt : i < ps.length
  · obtain ⟨x, ad, B, bc, hx, rfl, e0, _, er⟩ := rowsE (hp.up (stays_S (stays_I _)) (bup hB hBr)) i hlt
    have hxm := er.out.1
    obtain ⟨flat, hown, hel⟩ := hrow.own
    have hll : (lensF (ps.take i)).length = i := by simp [lensF]; omega
    rw [hll] at hown
    (repeat' (first | (refine wl_L tabOk rfl rfl rfl rfl rfl rfl e0 (run_l tabOk ?_); conv => whnf) | (refine wl_Xn tabOk 32 1 rfl rfl rfl rfl rfl rfl rfl (by omega) (run_l tabOk ?_); conv => whnf) | (refine wl_add rfl rfl rfl rfl rfl rfl (by omega) (by omega) (run_l tabOk ?_); conv => whnf) | (refine wl_sub rfl rfl rfl rfl rfl rfl (by omega) (by omega) (run_l tabOk ?_); conv => whnf) | (refine wl_cvA tabOk rfl rfl rfl (by simp only [inK]; omega) rfl rfl rfl (run_l tabOk ?_); conv => whnf) | (refine wl_cvB tabOk rfl rfl rfl rfl rfl rfl (run_l tabOk ?_); conv => whnf) | (refine wl_rem rfl rfl rfl rfl rfl rfl (by omega) (by omega) (fun r hr hr0 hr1 hr2 => run_l tabOk ?_); conv => whnf) | (refine wl_quo rfl rfl rfl rfl rfl rfl (by omega) (by omega) (by simp only [inK]; omega) (run_l tabOk ?_); conv => whnf) | (refine wl_mul rfl rfl rfl rfl rfl rfl (by omega) (by omega) (run_l tabOk ?_); conv => whnf) | (refine gs_dt (by first | assumption | omega) ?_; conv => whnf) | (refine gs_df (by first | assumption | omega) ?_; conv => whnf) | (refine gs_t (by assumption) ?_; conv => whnf) | (refine gs_f (by assumption) ?_; conv => whnf) | (refine gs_d (fun hg => ?_) (fun hg => ?_) <;> conv => whnf) | (refine gs_n (fun hg => ?_) (fun hg => ?_) <;> conv => whnf) | (refine gs_nb (fun hg => ?_) (fun hg => ?_) <;> conv => whnf) | (refine gs_b (fun hg => ?_) (fun hg => ?_) <;> conv => whnf) | refine fin1 rfl rfl ?_))
    refine wl_fcv tabOk rfl rfl rfl rfl rfl rfl ?_
    refine run_l tabOk ?_
    conv => whnf
    refine wl_bs tabOk 39 1 rfl rfl rfl rfl rfl rfl rfl rfl rfl rfl ?_
    intro gn u1 hn
    refine run_l tabOk ?_
    conv => whnf
    refine wl_ap tabOk 39 1 8 (hown.kept (grown_of hn.below) (Classical.em _)) hn.blk rfl rfl rfl rfl rfl rfl rfl rfl rfl rfl rfl rfl (by simp [Value.oneCell']) (by omega) (by omega) (by have := hn.size; have := hBr.size; omega) ?_
    intro E ec u2 hown2 hg2 hob2
    refine run_l tabOk ?_
    conv => whnf
    refine wl_max rfl rfl rfl rfl rfl rfl rfl rfl ?_
    intro m hm
    refine run_l tabOk ?_
    conv => whnf
    (repeat' (first | (refine wl_add rfl rfl rfl rfl rfl rfl (by omega) (by omega) (run_l tabOk ?_); conv => whnf) | (refine wl_sub rfl rfl rfl rfl rfl rfl (by omega) (by omega) (run_l tabOk ?_); conv => whnf) | (refine wl_cvA tabOk rfl rfl rfl (by simp only [inK]; omega) rfl rfl rfl (run_l tabOk ?_); conv => whnf) | (refine wl_cvB tabOk rfl rfl rfl rfl rfl rfl (run_l tabOk ?_); conv => whnf) | (refine wl_rem rfl rfl rfl rfl rfl rfl (by omega) (by omega) (fun r hr hr0 hr1 hr2 => run_l tabOk ?_); conv => whnf) | (refine wl_quo rfl rfl rfl rfl rfl rfl (by omega) (by omega) (by simp only [inK]; omega) (run_l tabOk ?_); conv => whnf) | (refine wl_mul rfl rfl rfl rfl rfl rfl (by omega) (by omega) (run_l tabOk ?_); conv => whnf) | (refine gs_dt (by first | assumption | omega) ?_; conv => whnf) | (refine gs_df (by first | assumption | omega) ?_; conv => whnf) | (refine gs_t (by assumption) ?_; conv => whnf) | (refine gs_f (by assumption) ?_; conv => whnf) | (refine gs_d (fun hg => ?_) (fun hg => ?_) <;> conv => whnf) | (refine gs_n (fun hg => ?_) (fun hg => ?_) <;> conv => whnf) | (refine gs_nb (fun hg => ?_) (fun hg => ?_) <;> conv => whnf) | (refine gs_b (fun hg => ?_) (fun hg => ?_) <;> conv => whnf) | refine fin1 rfl rfl ?_))
    have hrow1 := hrow.below hn.below
    have hpush := hrow1.push (bs' := []) (x := nearF x.length) (fun w' _ => hel w' (fun _ _ => by simp_all)) (by rw [hll]; exact hown2) hg2 hob2 rfl (fun _ _ => rfl) (by simp) (by simp)
    have hlf : lensF (ps.take (i + 1)) = lensF (ps.take i) ++ [nearF x.length] := by rw [take_next hlt, hx.out]; simp [lensF]
    refine ⟨(i + 1, E, ec), ⟨rfl, rfl, rfl, rfl, ?_, rfl, rfl, rfl, trivial⟩, ⟨by simp only; omega, ?_, ?_⟩, by simp only; omega⟩
    · have e : (ps.take (i + 1)).foldl (fun m p => max m p.length) 0 = max ((ps.take i).foldl (fun m p => max m p.length) 0) x.length := by rw [fold_take _ _ hlt, hx.out]
      show Value.int .i64 m = .int .i64 (((ps.take (i + 1)).foldl (fun m p => max m p.length) 0 : Nat) : Int)
      rw [e, hm]
      congr 1
      simp only
      split <;> omega
    · exact (bup hBr hn.below).grown hg2 (by have := hn.size; have := hBr.size; omega) (fun k hk => (hrow1.olt k hk).1)
    · simp only
      rw [hlf]
      simpa using hpush
  · have hip : i = ps.length := by omega
    subst hip
    rw [List.take_of_length_le (Nat.le_refl _)] at hrow
    have hb1r := blk_up hBr hb1
    have hb2r := blk_up hBr hb2
    have hb3r := blk_up hBr hb3
    (repeat' (first | (refine wl_add rfl rfl rfl rfl rfl rfl (by omega) (by omega) (run_l tabOk ?_); conv => whnf) | (refine wl_sub rfl rfl rfl rfl rfl rfl (by omega) (by omega) (run_l tabOk ?_); conv => whnf) | (refine wl_cvA tabOk rfl rfl rfl (by simp only [inK]; omega) rfl rfl rfl (run_l tabOk ?_); conv => whnf) | (refine wl_cvB tabOk rfl rfl rfl rfl rfl rfl (run_l tabOk ?_); conv => whnf) | (refine wl_rem rfl rfl rfl rfl rfl rfl (by omega) (by omega) (fun r hr hr0 hr1 hr2 => run_l tabOk ?_); conv => whnf) | (refine wl_quo rfl rfl rfl rfl rfl rfl (by omega) (by omega) (by simp only [inK]; omega) (run_l tabOk ?_); conv => whnf) | (refine wl_mul rfl rfl rfl rfl rfl rfl (by omega) (by omega) (run_l tabOk ?_); conv => whnf) | (refine gs_dt (by first | assumption | omega) ?_; conv => whnf) | (refine gs_df (by first | assumption | omega) ?_; conv => whnf) | (refine gs_t (by assumption) ?_; conv => whnf) | (refine gs_f (by assumption) ?_; conv => whnf) | (refine gs_d (fun hg => ?_) (fun hg => ?_) <;> conv => whnf) | (refine gs_n (fun hg => ?_) (fun hg => ?_) <;> conv => whnf) | (refine gs_nb (fun hg => ?_) (fun hg => ?_) <;> conv => whnf) | (refine gs_b (fun hg => ?_) (fun hg => ?_) <;> conv => whnf) | refine fin1 rfl rfl ?_))
    rw [List.take_of_length_le (Nat.le_refl _)]
    refine wc_qx [0, 1, 2, 3, 5, 6, 7, 8, 9, 10, 12, 14] 4 16 (stable_Bw _) tabOk mixed (by kernel_rfl) (Below.refl _ _) ?_; (conv => whnf)
    (repeat' (first | (refine wq_Lg tabOk hb1r rfl rfl rfl rfl rfl rfl rfl (run_q tabOk ?_); conv => whnf) | (refine wq_Lg tabOk hb2r rfl rfl rfl rfl rfl rfl rfl (run_q tabOk ?_); conv => whnf) | (refine wq_add rfl rfl rfl rfl rfl rfl (by omega) (by omega) (run_q tabOk ?_); conv => whnf) | (refine wq_sub rfl rfl rfl rfl rfl rfl (by omega) (by omega) (run_q tabOk ?_); conv => whnf) | (refine wq_cvA tabOk rfl rfl rfl (by simp only [inK]; omega) rfl rfl rfl (run_q tabOk ?_); conv => whnf) | (refine wq_cvB tabOk rfl rfl rfl rfl rfl rfl (run_q tabOk ?_); conv => whnf) | (refine wq_rem rfl rfl rfl rfl rfl rfl (by omega) (by omega) (fun r hr hr0 hr1 hr2 => run_q tabOk ?_); conv => whnf) | (refine wq_quo rfl rfl rfl rfl rfl rfl (by omega) (by omega) (by simp only [inK]; omega) (run_q tabOk ?_); conv => whnf) | (refine wq_mul rfl rfl rfl rfl rfl rfl (by omega) (by omega) (run_q tabOk ?_); conv => whnf) | (refine gs_dt (by first | assumption | omega) ?_; conv => whnf) | (refine gs_df (by first | assumption | omega) ?_; conv => whnf) | (refine gs_t (by assumption) ?_; conv => whnf) | (refine gs_f (by assumption) ?_; conv => whnf) | (refine gs_d (fun hg => ?_) (fun hg => ?_) <;> conv => whnf) | (refine gs_n (fun hg => ?_) (fun hg => ?_) <;> conv => whnf) | (refine gs_nb (fun hg => ?_) (fun hg => ?_) <;> conv => whnf) | (refine gs_b (fun hg => ?_) (fun hg => ?_) <;> conv => whnf)))
    intro u1 hC hbu
    clear hbu
    conv => whnf
    refine ⟨?_, trivial⟩
    conv => whnf
    refine wb_C fn23 (gaugeShare t.vars s.vars u1) rfl rfl rfl rfl rfl rfl ?_
    rintro _ u2 ⟨r1, rfl, hr1, hB1⟩
    refine ⟨_, rfl, bup hC hB1, fun u3 hu3 hC => ?_⟩
    conv => whnf
    refine ⟨?_, trivial⟩
    conv => whnf
    refine wb_C fn23 (gaugeShare t.cons.length s.cons.length u3) rfl rfl rfl rfl rfl rfl ?_
    rintro _ u4 ⟨r2, rfl, hr2, hB2⟩
    refine ⟨_, rfl, bup hC hB2, fun u5 hu5 hC => ?_⟩
    conv => whnf
    refine ⟨?_, trivial⟩
    conv => whnf
    have hrow5 := (hrow.below hC).rowAt
    have hll : (lensF ps).length = ps.length := by simp [lensF]
    have hmc := gaugeMean (lensF ps) D dc u5 hrow5.2.2
    rw [hll] at hmc
    refine wb_C fn24 hmc rfl rfl rfl rfl rfl rfl ?_
    rintro _ u6 ⟨r3, rfl, hr3, hB3⟩
    refine ⟨_, rfl, bup hC hB3, fun u7 hu7 hC => ?_⟩
    conv => whnf
    refine ⟨?_, trivial⟩
    conv => whnf
    refine wb_P tabOk rfl rfl rfl ?_
    refine ⟨hC, fun u8 hu8 hC => ?_⟩
    conv => whnf
    refine wl_Sa tabOk (blk_up hC hb3r) rfl rfl rfl rfl rfl (by simp [Value.oneCell']) rfl rfl ?_
    intro uz hz
    refine run_l tabOk ?_
    conv => whnf
    refine fin_c tabOk rfl hz.blk rfl rfl ⟨r1, r2, r3, rfl, hr1, hr2, hr3, ?_⟩
    have hb := bup hB (bup hBr hC)
    exact hz.below hb hg3 hb.size
end Go.Proofs.Ytkmnhkfgjadppaa
