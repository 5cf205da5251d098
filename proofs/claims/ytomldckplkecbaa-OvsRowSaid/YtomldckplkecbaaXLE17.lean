/- The walk of OvsEmpty. -/
import Derived.Test.YtomldckplkecbaaY18
namespace Go.Proofs.Ytomldckplkecbaa
open Go.RowKit
set_option linter.unusedVariables false
set_option linter.unusedSimpArgs false
set_option maxRecDepth 100000
def keepE (c : Con) : Bool := decide (c.k = 2) || decide (c.k = 4)
theorem right_keepE {n : Int} {xs : List Cell} {ys : List Con} (h : rightB ⟨n, xs, ys⟩ = true) : rightB ⟨n, [], ys.filter keepE⟩ = true := by
  simp only [rightB, bigOk, Bool.and_eq_true, decide_eq_true_eq, List.all_eq_true] at h ⊢
  have := List.length_filter_le keepE ys
  refine ⟨⟨⟨⟨h.1.1.1.1, by simp⟩, by omega⟩, by simp⟩, fun c hc => ?_⟩
  obtain ⟨h1, h2⟩ := List.mem_filter.1 hc
  have h3 := h.2 c h1
  have hk : ¬ c.k = 1 := by simp [keepE] at h2; omega
  unfold conOk at h3 ⊢
  rw [if_neg hk] at h3 ⊢
  exact h3
theorem gfold_copy {n : Nat} : ∀ (l : List Con) (p : List (List Int) × List (List Int)), (∀ c ∈ l, keepE c = true) → (∀ c ∈ l, conOk (n : Int) 0 c = true) → (∀ v, v < p.1.length → ∀ y ∈ p.1[v]!, y < (n : Int)) →
    (∀ v, v < (l.foldl (gstep n) p).1.length → ∀ y ∈ (l.foldl (gstep n) p).1[v]!, y < (n : Int)) ∧ (l.foldl (gstep n) p).2 = p.2
  | [], p, _, _, h1 => ⟨h1, rfl⟩
  | c :: l, p, hk, hc, h1 => by
    have hck := hc c (by simp)
    have hkk := hk c (by simp)
    simp only [conOk, inR, Bool.and_eq_true, decide_eq_true_eq] at hck
    simp [keepE] at hkk
    have hb := hck.1.1.1.2
    rw [if_neg (by omega)] at hb
    have e2 : (gstep n p c).2 = p.2 := by
      unfold gstep
      rw [if_neg (by omega)]
      split
      · rfl
      · rw [if_neg (by omega)]
    have h3 := gfold_copy l (gstep n p c) (fun d hd => hk d (by simp [hd])) (fun d hd => hc d (by simp [hd])) (by
      unfold gstep
      rw [if_neg (by omega)]
      split
      · exact addAt_all h1 (by omega)
      · rw [if_neg (by omega)]
        exact h1)
    exact ⟨h3.1, h3.2.trans e2⟩
theorem loose_copy {n : Nat} {ys : List Con} (hk : ∀ c ∈ ys, keepE c = true) : looseB ⟨n, [], ys⟩ = List.replicate n false := by
  have key : ∀ (l : List Con) (L : List Bool), (∀ c ∈ l, keepE c = true) → l.foldl conMarks L = L := by
    intro l
    induction l with
    | nil => intro L _; rfl
    | cons c l ih =>
      intro L h
      rw [List.foldl_cons]
      have hc := h c (by simp)
      simp [keepE] at hc
      have e : conMarks L c = L := by
        unfold conMarks
        simp
        omega
      rw [e]
      exact ih L fun d hd => h d (by simp [hd])
  show ys.foldl conMarks (List.replicate (n : Int).toNat false) = _
  rw [key ys _ hk]
  simp
set_option maxHeartbeats 16000000 in
theorem lawOvsEmpty (d : Draft) (A : Option Addr) (c : Nat) (w : World) (h : RActs w A d.acts) (hk : (0 ≤ d.vars ∧ d.vars ≤ 255) ∧ 0 ≤ d.cells ∧ d.cells ≤ 255) :
    Calls Try.prog 10 #[.agg #[.int .u8 d.vars, .int .u8 d.cells, .slice A d.acts.length c]] w fun e w' => e = .returned (.bool true) ∧ Below w.heap.size w w' := by
  refine enterR (args := [.agg #[.int .u8 d.vars, .int .u8 d.cells, .slice A d.acts.length c]]) tabOk Try.func10 rfl Try.ntmps10 rfl ?_; conv => whnf
  refine wl_box rfl rfl rfl rfl rfl rfl ?_
  intro g1 w1 hn1
  refine run_l tabOk ?_
  conv => whnf
  refine wl_C fn14 (awake17 _) rfl rfl rfl rfl rfl rfl rfl ?_
  rintro _ w2 ⟨rfl, hB2⟩
  have hb := blk_up hB2 hn1.blk
  have hB := bup hn1.below hB2
  refine ⟨_, rfl, run_l tabOk ?_⟩
  conv => whnf
  by_cases hbig : 40 < d.acts.length
  · (repeat' (first | (refine wl_Lg tabOk hb rfl rfl rfl rfl rfl rfl rfl (run_l tabOk ?_); conv => whnf) | (refine wl_add rfl rfl rfl rfl rfl rfl (by omega) (by omega) (run_l tabOk ?_); conv => whnf) | (refine wl_sub rfl rfl rfl rfl rfl rfl (by omega) (by omega) (run_l tabOk ?_); conv => whnf) | (refine wl_cvA tabOk rfl rfl rfl (by simp only [inK]; omega) rfl rfl rfl (run_l tabOk ?_); conv => whnf) | (refine wl_cvB tabOk rfl rfl rfl rfl rfl rfl (run_l tabOk ?_); conv => whnf) | (refine wl_rem rfl rfl rfl rfl rfl rfl (by omega) (by omega) (fun r hr hr0 hr1 hr2 => run_l tabOk ?_); conv => whnf) | (refine wl_quo rfl rfl rfl rfl rfl rfl (by omega) (by omega) (by simp only [inK]; omega) (run_l tabOk ?_); conv => whnf) | (refine wl_mul rfl rfl rfl rfl rfl rfl (by omega) (by omega) (run_l tabOk ?_); conv => whnf) | (refine gs_dt (by first | assumption | omega) ?_; conv => whnf) | (refine gs_df (by first | assumption | omega) ?_; conv => whnf) | (refine gs_t (by assumption) ?_; conv => whnf) | (refine gs_f (by assumption) ?_; conv => whnf) | (refine gs_d (fun hg => ?_) (fun hg => ?_) <;> conv => whnf) | (refine gs_n (fun hg => ?_) (fun hg => ?_) <;> conv => whnf) | (refine gs_nb (fun hg => ?_) (fun hg => ?_) <;> conv => whnf) | (refine gs_b (fun hg => ?_) (fun hg => ?_) <;> conv => whnf) | refine fin1 rfl rfl ?_))
    refine wl_C fn14 (awake17 _) rfl rfl rfl rfl rfl rfl rfl ?_
    rintro _ w3 ⟨rfl, hB3⟩
    refine ⟨_, rfl, run_l tabOk ?_⟩
    conv => whnf
    (repeat' (first | (refine wl_add rfl rfl rfl rfl rfl rfl (by omega) (by omega) (run_l tabOk ?_); conv => whnf) | (refine wl_sub rfl rfl rfl rfl rfl rfl (by omega) (by omega) (run_l tabOk ?_); conv => whnf) | (refine wl_cvA tabOk rfl rfl rfl (by simp only [inK]; omega) rfl rfl rfl (run_l tabOk ?_); conv => whnf) | (refine wl_cvB tabOk rfl rfl rfl rfl rfl rfl (run_l tabOk ?_); conv => whnf) | (refine wl_rem rfl rfl rfl rfl rfl rfl (by omega) (by omega) (fun r hr hr0 hr1 hr2 => run_l tabOk ?_); conv => whnf) | (refine wl_quo rfl rfl rfl rfl rfl rfl (by omega) (by omega) (by simp only [inK]; omega) (run_l tabOk ?_); conv => whnf) | (refine wl_mul rfl rfl rfl rfl rfl rfl (by omega) (by omega) (run_l tabOk ?_); conv => whnf) | (refine gs_dt (by first | assumption | omega) ?_; conv => whnf) | (refine gs_df (by first | assumption | omega) ?_; conv => whnf) | (refine gs_t (by assumption) ?_; conv => whnf) | (refine gs_f (by assumption) ?_; conv => whnf) | (refine gs_d (fun hg => ?_) (fun hg => ?_) <;> conv => whnf) | (refine gs_n (fun hg => ?_) (fun hg => ?_) <;> conv => whnf) | (refine gs_nb (fun hg => ?_) (fun hg => ?_) <;> conv => whnf) | (refine gs_b (fun hg => ?_) (fun hg => ?_) <;> conv => whnf) | refine fin1 rfl rfl ?_))
    exact ⟨rfl, bup hB hB3⟩
  (repeat' (first | (refine wl_Lg tabOk hb rfl rfl rfl rfl rfl rfl rfl (run_l tabOk ?_); conv => whnf) | (refine wl_Lag tabOk hb rfl rfl rfl rfl rfl rfl (run_l tabOk ?_); conv => whnf) | (refine wl_add rfl rfl rfl rfl rfl rfl (by omega) (by omega) (run_l tabOk ?_); conv => whnf) | (refine wl_sub rfl rfl rfl rfl rfl rfl (by omega) (by omega) (run_l tabOk ?_); conv => whnf) | (refine wl_cvA tabOk rfl rfl rfl (by simp only [inK]; omega) rfl rfl rfl (run_l tabOk ?_); conv => whnf) | (refine wl_cvB tabOk rfl rfl rfl rfl rfl rfl (run_l tabOk ?_); conv => whnf) | (refine wl_rem rfl rfl rfl rfl rfl rfl (by omega) (by omega) (fun r hr hr0 hr1 hr2 => run_l tabOk ?_); conv => whnf) | (refine wl_quo rfl rfl rfl rfl rfl rfl (by omega) (by omega) (by simp only [inK]; omega) (run_l tabOk ?_); conv => whnf) | (refine wl_mul rfl rfl rfl rfl rfl rfl (by omega) (by omega) (run_l tabOk ?_); conv => whnf) | (refine gs_dt (by first | assumption | omega) ?_; conv => whnf) | (refine gs_df (by first | assumption | omega) ?_; conv => whnf) | (refine gs_t (by assumption) ?_; conv => whnf) | (refine gs_f (by assumption) ?_; conv => whnf) | (refine gs_d (fun hg => ?_) (fun hg => ?_) <;> conv => whnf) | (refine gs_n (fun hg => ?_) (fun hg => ?_) <;> conv => whnf) | (refine gs_nb (fun hg => ?_) (fun hg => ?_) <;> conv => whnf) | (refine gs_b (fun hg => ?_) (fun hg => ?_) <;> conv => whnf) | refine fin1 rfl rfl ?_))
  refine wl_C fn15 (refMake d A c w2 (h.up stays_Act hB) hk.1 hk.2) rfl rfl rfl rfl rfl rfl rfl ?_
  rintro _ w3 ⟨s, va, vb', bs, cs, rfl, hB3, hM⟩
  have hright := hM.right
  have hncons := hM.ncons
  have hvars := hM.vars
  have hgood := hM.gcons
  obtain ⟨A1, c1, rfl, _, hr1⟩ := hM.cells.row
  obtain ⟨A2, c2, rfl, _, hr2⟩ := hM.cons.row
  have hB03 := bup hB hB3
  clear hM hb hB2 hn1
  obtain ⟨vars, xs, ys⟩ := s
  simp only at hright hncons hvars hr1 hr2 hgood
  obtain ⟨n, rfl⟩ : ∃ n : Nat, vars = n := ⟨vars.toNat, by omega⟩
  have hnoarg : ∀ i, i < ys.length → keepE ys[i]! = true → ys[i]!.args = [] := fun i hi hkp => by
    have := hgood i hi
    simp only [conOk, Bool.and_eq_true, Bool.or_eq_true, decide_eq_true_eq] at this
    simp only [keepE, Bool.or_eq_true, decide_eq_true_eq] at hkp
    rcases this.1.2 with h5 | h0
    · omega
    · exact List.eq_nil_of_length_eq_zero h0
  refine ⟨_, rfl, run_l tabOk ?_⟩
  conv => whnf
  refine wl_alloc tabOk rfl rfl rfl rfl rfl rfl ?_
  intro g3 w4 hn4
  refine run_l tabOk ?_
  conv => whnf
  refine wl_Sa tabOk hn4.blk rfl rfl rfl rfl rfl (by simp [Value.oneCell']) rfl rfl ?_
  intro w5 hp5
  have hB5 : Below w3.heap.size w3 w5 := hp5.below hn4.below (by have := hn4.at_; omega) (by have := hn4.size; omega)
  have hb3 : w5.heap[g3]? = some (.cells #[.int .i64 n, .slice A1 xs.length c1, .slice A2 ys.length c2] 41 (0, 0)) := hp5.blk
  have hr2 := hr2.up stays_Con hB5
  have hB05 := bup hB03 hB5
  have hg3s := blk_lt hb3
  have hg3w : w.heap.size ≤ g3 := by have := hn4.at_; have := hB03.size; omega
  have hm2 := hr2.1
  clear hp5 hn4 hB03 hB5 hB3 hgood
  refine run_l tabOk ?_
  conv => whnf
  (repeat' (first | (refine wl_add rfl rfl rfl rfl rfl rfl (by omega) (by omega) (run_l tabOk ?_); conv => whnf) | (refine wl_sub rfl rfl rfl rfl rfl rfl (by omega) (by omega) (run_l tabOk ?_); conv => whnf) | (refine wl_cvA tabOk rfl rfl rfl (by simp only [inK]; omega) rfl rfl rfl (run_l tabOk ?_); conv => whnf) | (refine wl_cvB tabOk rfl rfl rfl rfl rfl rfl (run_l tabOk ?_); conv => whnf) | (refine wl_rem rfl rfl rfl rfl rfl rfl (by omega) (by omega) (fun r hr hr0 hr1 hr2 => run_l tabOk ?_); conv => whnf) | (refine wl_quo rfl rfl rfl rfl rfl rfl (by omega) (by omega) (by simp only [inK]; omega) (run_l tabOk ?_); conv => whnf) | (refine wl_mul rfl rfl rfl rfl rfl rfl (by omega) (by omega) (run_l tabOk ?_); conv => whnf) | (refine gs_dt (by first | assumption | omega) ?_; conv => whnf) | (refine gs_df (by first | assumption | omega) ?_; conv => whnf) | (refine gs_t (by assumption) ?_; conv => whnf) | (refine gs_f (by assumption) ?_; conv => whnf) | (refine gs_d (fun hg => ?_) (fun hg => ?_) <;> conv => whnf) | (refine gs_n (fun hg => ?_) (fun hg => ?_) <;> conv => whnf) | (refine gs_nb (fun hg => ?_) (fun hg => ?_) <;> conv => whnf) | (refine gs_b (fun hg => ?_) (fun hg => ?_) <;> conv => whnf) | refine fin1 rfl rfl ?_))
  refine wc_ends 0 (fun _ _ => False) (X := Option Addr × Nat) (fun x => [(3, .pointer (some ⟨g3, 0, none⟩)), (4, .slice x.1 (ys.filter keepE).length x.2)])
    (fun x wr => Below w5.heap.size w5 wr ∧ GRow 4 dCon 52 w5.heap.size wr (.slice x.1 (ys.filter keepE).length x.2) (ys.filter keepE) []) ?_ (fun _ _ h => h.elim) ?_
  · refine lp_loop tabOk (X := Nat × Option Addr × Nat) (fun x => [(3, .pointer (some ⟨g3, 0, none⟩)), (4, .slice x.2.1 ((ys.take x.1).filter keepE).length x.2.2), (5, .int .i64 (x.1 : Int))])
      (fun x wr => x.1 ≤ ys.length ∧ Below w5.heap.size w5 wr ∧ GRow 4 dCon 52 w5.heap.size wr (.slice x.2.1 ((ys.take x.1).filter keepE).length x.2.2) ((ys.take x.1).filter keepE) []) (fun x => ys.length - x.1) (0, none, 0) ⟨rfl, rfl, rfl, trivial⟩ ⟨by simp, Below.refl _ _, GRow.nil ..⟩ ?_
    rintro ⟨i, D, dc⟩ G wr ⟨hi, hBr, hrow⟩
    simp only at hi hBr hrow
    have hb3r := blk_up hBr hb3
    by_cases hil : i < ys.length
    · obtain ⟨x, ad, D1, dc1, hx, e1, e0, hc0, hRx, hka, hkb, hra, hrb⟩ := consE (hr2.up stays_Con hBr) i hil
      have hna := hnoarg i hil
      rw [hx.out] at hna
      have hft := filter_take keepE hil
      rw [hx.out] at hft
      subst e1
      have f0 := e0.1
      by_cases hkp : keepE x = true
      · rw [if_pos hkp] at hft
        have hargs := hna hkp
        rw [hargs] at e0
        have hk24 : x.k = 2 ∨ x.k = 4 := by simp [keepE] at hkp; omega
        have hown := hrow.own.choose_spec.1
        have hel := hrow.own.choose_spec.2
        have hsm := List.length_filter_le keepE (ys.take i)
        rw [List.length_take] at hsm
        conv => whnf
        rcases hk24 with hk2 | hk4
        · (repeat' (first | (refine wl_Lg tabOk hb3r rfl rfl rfl rfl rfl rfl rfl (run_l tabOk ?_); conv => whnf) | (refine wl_L tabOk rfl rfl rfl rfl rfl rfl f0 (run_l tabOk ?_); conv => whnf) | (refine wl_Xn tabOk 52 4 rfl rfl rfl rfl rfl rfl rfl (by omega) (run_l tabOk ?_); conv => whnf) | (refine wl_La tabOk e0 rfl rfl rfl rfl rfl rfl (run_l tabOk ?_); conv => whnf) | (refine wl_add rfl rfl rfl rfl rfl rfl (by omega) (by omega) (run_l tabOk ?_); conv => whnf) | (refine wl_sub rfl rfl rfl rfl rfl rfl (by omega) (by omega) (run_l tabOk ?_); conv => whnf) | (refine wl_cvA tabOk rfl rfl rfl (by simp only [inK]; omega) rfl rfl rfl (run_l tabOk ?_); conv => whnf) | (refine wl_cvB tabOk rfl rfl rfl rfl rfl rfl (run_l tabOk ?_); conv => whnf) | (refine wl_rem rfl rfl rfl rfl rfl rfl (by omega) (by omega) (fun r hr hr0 hr1 hr2 => run_l tabOk ?_); conv => whnf) | (refine wl_quo rfl rfl rfl rfl rfl rfl (by omega) (by omega) (by simp only [inK]; omega) (run_l tabOk ?_); conv => whnf) | (refine wl_mul rfl rfl rfl rfl rfl rfl (by omega) (by omega) (run_l tabOk ?_); conv => whnf) | (refine gs_dt (by first | assumption | omega) ?_; conv => whnf) | (refine gs_df (by first | assumption | omega) ?_; conv => whnf) | (refine gs_t (by assumption) ?_; conv => whnf) | (refine gs_f (by assumption) ?_; conv => whnf) | (refine gs_d (fun hg => ?_) (fun hg => ?_) <;> conv => whnf) | (refine gs_n (fun hg => ?_) (fun hg => ?_) <;> conv => whnf) | (refine gs_nb (fun hg => ?_) (fun hg => ?_) <;> conv => whnf) | (refine gs_b (fun hg => ?_) (fun hg => ?_) <;> conv => whnf) | refine fin1 rfl rfl ?_))
          refine wl_bs tabOk 52 4 rfl rfl rfl rfl rfl rfl rfl rfl rfl rfl ?_
          intro gn w6 hn6
          refine run_l tabOk ?_
          conv => whnf
          have hown6 := hown.kept (grown_of hn6.below) (Classical.em _)
          refine wl_ap tabOk 52 4 48 hown6 hn6.blk rfl rfl rfl rfl rfl rfl rfl rfl rfl rfl rfl (by simp) (by simp [Value.oneCell']) (by omega) (by omega) (by have := hBr.size; have := hn6.size; omega) ?_
          intro E ec w7 hown7 hg7 hob7
          refine run_l tabOk ?_
          conv => whnf
          (repeat' (first | (refine wl_add rfl rfl rfl rfl rfl rfl (by omega) (by omega) (run_l tabOk ?_); conv => whnf) | (refine wl_sub rfl rfl rfl rfl rfl rfl (by omega) (by omega) (run_l tabOk ?_); conv => whnf) | (refine wl_cvA tabOk rfl rfl rfl (by simp only [inK]; omega) rfl rfl rfl (run_l tabOk ?_); conv => whnf) | (refine wl_cvB tabOk rfl rfl rfl rfl rfl rfl (run_l tabOk ?_); conv => whnf) | (refine wl_rem rfl rfl rfl rfl rfl rfl (by omega) (by omega) (fun r hr hr0 hr1 hr2 => run_l tabOk ?_); conv => whnf) | (refine wl_quo rfl rfl rfl rfl rfl rfl (by omega) (by omega) (by simp only [inK]; omega) (run_l tabOk ?_); conv => whnf) | (refine wl_mul rfl rfl rfl rfl rfl rfl (by omega) (by omega) (run_l tabOk ?_); conv => whnf) | (refine gs_dt (by first | assumption | omega) ?_; conv => whnf) | (refine gs_df (by first | assumption | omega) ?_; conv => whnf) | (refine gs_t (by assumption) ?_; conv => whnf) | (refine gs_f (by assumption) ?_; conv => whnf) | (refine gs_d (fun hg => ?_) (fun hg => ?_) <;> conv => whnf) | (refine gs_n (fun hg => ?_) (fun hg => ?_) <;> conv => whnf) | (refine gs_nb (fun hg => ?_) (fun hg => ?_) <;> conv => whnf) | (refine gs_b (fun hg => ?_) (fun hg => ?_) <;> conv => whnf) | refine fin1 rfl rfl ?_))
          have hrow6 := hrow.below hn6.below
          have hpu := hrow6.push (bs' := []) (x := x) (fun w' hw' => hel w' (by simp)) hown7 hg7 hob7 rfl (fun w' _ => ⟨D1, dc1, by rw [hargs]; first | done | rfl, by rw [hargs]; simp, by rw [hargs]; exact RowR.nil .., ⟨hka, hkb⟩, hra, hrb⟩) (by simp) (by simp)
          have hlen : ((ys.take (i + 1)).filter keepE).length = ((ys.take i).filter keepE).length + 1 := by rw [hft]; simp
          refine ⟨(i + 1, E, ec), ⟨rfl, congrArg (fun m => Value.slice E m ec) hlen.symm, rfl, trivial⟩, ⟨by simp only; omega, (bup hBr hn6.below).grown hg7 (bup hBr hn6.below).size (fun b hb => (hrow6.olt b hb).1), ?_⟩, by simp only; omega⟩
          simp only [hlen]
          rw [hft]
          exact hpu
        · (repeat' (first | (refine wl_Lg tabOk hb3r rfl rfl rfl rfl rfl rfl rfl (run_l tabOk ?_); conv => whnf) | (refine wl_L tabOk rfl rfl rfl rfl rfl rfl f0 (run_l tabOk ?_); conv => whnf) | (refine wl_Xn tabOk 52 4 rfl rfl rfl rfl rfl rfl rfl (by omega) (run_l tabOk ?_); conv => whnf) | (refine wl_La tabOk e0 rfl rfl rfl rfl rfl rfl (run_l tabOk ?_); conv => whnf) | (refine wl_add rfl rfl rfl rfl rfl rfl (by omega) (by omega) (run_l tabOk ?_); conv => whnf) | (refine wl_sub rfl rfl rfl rfl rfl rfl (by omega) (by omega) (run_l tabOk ?_); conv => whnf) | (refine wl_cvA tabOk rfl rfl rfl (by simp only [inK]; omega) rfl rfl rfl (run_l tabOk ?_); conv => whnf) | (refine wl_cvB tabOk rfl rfl rfl rfl rfl rfl (run_l tabOk ?_); conv => whnf) | (refine wl_rem rfl rfl rfl rfl rfl rfl (by omega) (by omega) (fun r hr hr0 hr1 hr2 => run_l tabOk ?_); conv => whnf) | (refine wl_quo rfl rfl rfl rfl rfl rfl (by omega) (by omega) (by simp only [inK]; omega) (run_l tabOk ?_); conv => whnf) | (refine wl_mul rfl rfl rfl rfl rfl rfl (by omega) (by omega) (run_l tabOk ?_); conv => whnf) | (refine gs_dt (by first | assumption | omega) ?_; conv => whnf) | (refine gs_df (by first | assumption | omega) ?_; conv => whnf) | (refine gs_t (by assumption) ?_; conv => whnf) | (refine gs_f (by assumption) ?_; conv => whnf) | (refine gs_d (fun hg => ?_) (fun hg => ?_) <;> conv => whnf) | (refine gs_n (fun hg => ?_) (fun hg => ?_) <;> conv => whnf) | (refine gs_nb (fun hg => ?_) (fun hg => ?_) <;> conv => whnf) | (refine gs_b (fun hg => ?_) (fun hg => ?_) <;> conv => whnf) | refine fin1 rfl rfl ?_))
          refine wl_bs tabOk 52 4 rfl rfl rfl rfl rfl rfl rfl rfl rfl rfl ?_
          intro gn w6 hn6
          refine run_l tabOk ?_
          conv => whnf
          have hown6 := hown.kept (grown_of hn6.below) (Classical.em _)
          refine wl_ap tabOk 52 4 48 hown6 hn6.blk rfl rfl rfl rfl rfl rfl rfl rfl rfl rfl rfl (by simp) (by simp [Value.oneCell']) (by omega) (by omega) (by have := hBr.size; have := hn6.size; omega) ?_
          intro E ec w7 hown7 hg7 hob7
          refine run_l tabOk ?_
          conv => whnf
          (repeat' (first | (refine wl_add rfl rfl rfl rfl rfl rfl (by omega) (by omega) (run_l tabOk ?_); conv => whnf) | (refine wl_sub rfl rfl rfl rfl rfl rfl (by omega) (by omega) (run_l tabOk ?_); conv => whnf) | (refine wl_cvA tabOk rfl rfl rfl (by simp only [inK]; omega) rfl rfl rfl (run_l tabOk ?_); conv => whnf) | (refine wl_cvB tabOk rfl rfl rfl rfl rfl rfl (run_l tabOk ?_); conv => whnf) | (refine wl_rem rfl rfl rfl rfl rfl rfl (by omega) (by omega) (fun r hr hr0 hr1 hr2 => run_l tabOk ?_); conv => whnf) | (refine wl_quo rfl rfl rfl rfl rfl rfl (by omega) (by omega) (by simp only [inK]; omega) (run_l tabOk ?_); conv => whnf) | (refine wl_mul rfl rfl rfl rfl rfl rfl (by omega) (by omega) (run_l tabOk ?_); conv => whnf) | (refine gs_dt (by first | assumption | omega) ?_; conv => whnf) | (refine gs_df (by first | assumption | omega) ?_; conv => whnf) | (refine gs_t (by assumption) ?_; conv => whnf) | (refine gs_f (by assumption) ?_; conv => whnf) | (refine gs_d (fun hg => ?_) (fun hg => ?_) <;> conv => whnf) | (refine gs_n (fun hg => ?_) (fun hg => ?_) <;> conv => whnf) | (refine gs_nb (fun hg => ?_) (fun hg => ?_) <;> conv => whnf) | (refine gs_b (fun hg => ?_) (fun hg => ?_) <;> conv => whnf) | refine fin1 rfl rfl ?_))
          have hrow6 := hrow.below hn6.below
          have hpu := hrow6.push (bs' := []) (x := x) (fun w' hw' => hel w' (by simp)) hown7 hg7 hob7 rfl (fun w' _ => ⟨D1, dc1, by rw [hargs]; first | done | rfl, by rw [hargs]; simp, by rw [hargs]; exact RowR.nil .., ⟨hka, hkb⟩, hra, hrb⟩) (by simp) (by simp)
          have hlen : ((ys.take (i + 1)).filter keepE).length = ((ys.take i).filter keepE).length + 1 := by rw [hft]; simp
          refine ⟨(i + 1, E, ec), ⟨rfl, congrArg (fun m => Value.slice E m ec) hlen.symm, rfl, trivial⟩, ⟨by simp only; omega, (bup hBr hn6.below).grown hg7 (bup hBr hn6.below).size (fun b hb => (hrow6.olt b hb).1), ?_⟩, by simp only; omega⟩
          simp only [hlen]
          rw [hft]
          exact hpu
      · rw [if_neg hkp, List.append_nil] at hft
        have hk2 : ¬ x.k = 2 := by simp [keepE] at hkp; omega
        have hk4 : ¬ x.k = 4 := by simp [keepE] at hkp; omega
        conv => whnf
        (repeat' (first | (refine wl_Lg tabOk hb3r rfl rfl rfl rfl rfl rfl rfl (run_l tabOk ?_); conv => whnf) | (refine wl_L tabOk rfl rfl rfl rfl rfl rfl f0 (run_l tabOk ?_); conv => whnf) | (refine wl_Xn tabOk 52 4 rfl rfl rfl rfl rfl rfl rfl (by omega) (run_l tabOk ?_); conv => whnf) | (refine wl_add rfl rfl rfl rfl rfl rfl (by omega) (by omega) (run_l tabOk ?_); conv => whnf) | (refine wl_sub rfl rfl rfl rfl rfl rfl (by omega) (by omega) (run_l tabOk ?_); conv => whnf) | (refine wl_cvA tabOk rfl rfl rfl (by simp only [inK]; omega) rfl rfl rfl (run_l tabOk ?_); conv => whnf) | (refine wl_cvB tabOk rfl rfl rfl rfl rfl rfl (run_l tabOk ?_); conv => whnf) | (refine wl_rem rfl rfl rfl rfl rfl rfl (by omega) (by omega) (fun r hr hr0 hr1 hr2 => run_l tabOk ?_); conv => whnf) | (refine wl_quo rfl rfl rfl rfl rfl rfl (by omega) (by omega) (by simp only [inK]; omega) (run_l tabOk ?_); conv => whnf) | (refine wl_mul rfl rfl rfl rfl rfl rfl (by omega) (by omega) (run_l tabOk ?_); conv => whnf) | (refine gs_dt (by first | assumption | omega) ?_; conv => whnf) | (refine gs_df (by first | assumption | omega) ?_; conv => whnf) | (refine gs_t (by assumption) ?_; conv => whnf) | (refine gs_f (by assumption) ?_; conv => whnf) | (refine gs_d (fun hg => ?_) (fun hg => ?_) <;> conv => whnf) | (refine gs_n (fun hg => ?_) (fun hg => ?_) <;> conv => whnf) | (refine gs_nb (fun hg => ?_) (fun hg => ?_) <;> conv => whnf) | (refine gs_b (fun hg => ?_) (fun hg => ?_) <;> conv => whnf) | refine fin1 rfl rfl ?_))
        exact ⟨(i + 1, D, dc), ⟨rfl, by rw [hft]; rfl, rfl, trivial⟩, ⟨by simp only; omega, hBr, by simp only [hft]; exact hrow⟩, by simp only; omega⟩
    · have hiy : ys.take i = ys := List.take_of_length_le (by omega)
      rw [hiy] at hrow ⊢
      conv => whnf
      (repeat' (first | (refine wl_Lg tabOk hb3r rfl rfl rfl rfl rfl rfl rfl (run_l tabOk ?_); conv => whnf) | (refine wl_add rfl rfl rfl rfl rfl rfl (by omega) (by omega) (run_l tabOk ?_); conv => whnf) | (refine wl_sub rfl rfl rfl rfl rfl rfl (by omega) (by omega) (run_l tabOk ?_); conv => whnf) | (refine wl_cvA tabOk rfl rfl rfl (by simp only [inK]; omega) rfl rfl rfl (run_l tabOk ?_); conv => whnf) | (refine wl_cvB tabOk rfl rfl rfl rfl rfl rfl (run_l tabOk ?_); conv => whnf) | (refine wl_rem rfl rfl rfl rfl rfl rfl (by omega) (by omega) (fun r hr hr0 hr1 hr2 => run_l tabOk ?_); conv => whnf) | (refine wl_quo rfl rfl rfl rfl rfl rfl (by omega) (by omega) (by simp only [inK]; omega) (run_l tabOk ?_); conv => whnf) | (refine wl_mul rfl rfl rfl rfl rfl rfl (by omega) (by omega) (run_l tabOk ?_); conv => whnf) | (refine gs_dt (by first | assumption | omega) ?_; conv => whnf) | (refine gs_df (by first | assumption | omega) ?_; conv => whnf) | (refine gs_t (by assumption) ?_; conv => whnf) | (refine gs_f (by assumption) ?_; conv => whnf) | (refine gs_d (fun hg => ?_) (fun hg => ?_) <;> conv => whnf) | (refine gs_n (fun hg => ?_) (fun hg => ?_) <;> conv => whnf) | (refine gs_nb (fun hg => ?_) (fun hg => ?_) <;> conv => whnf) | (refine gs_b (fun hg => ?_) (fun hg => ?_) <;> conv => whnf) | refine fin1 rfl rfl ?_))
      exact ⟨rfl, (D, dc), ⟨rfl, rfl, trivial⟩, hBr, hrow⟩
  · rintro ⟨D, dc⟩ G wr ⟨hBr, hrow⟩
    simp only at hBr hrow
    obtain ⟨zs, hzs⟩ : ∃ zs, zs = ys.filter keepE := ⟨_, rfl⟩
    rw [← hzs] at hrow
    have hright2 : rightB ⟨n, [], zs⟩ = true := by rw [hzs]; exact right_keepE hright
    have hall : ∀ c ∈ zs, keepE c = true := fun c hc => by rw [hzs] at hc; exact (List.mem_filter.1 hc).2
    have hb3r := blk_up hBr hb3
    rw [← hzs]
    conv => whnf
    (repeat' (first | (refine wl_add rfl rfl rfl rfl rfl rfl (by omega) (by omega) (run_l tabOk ?_); conv => whnf) | (refine wl_sub rfl rfl rfl rfl rfl rfl (by omega) (by omega) (run_l tabOk ?_); conv => whnf) | (refine wl_cvA tabOk rfl rfl rfl (by simp only [inK]; omega) rfl rfl rfl (run_l tabOk ?_); conv => whnf) | (refine wl_cvB tabOk rfl rfl rfl rfl rfl rfl (run_l tabOk ?_); conv => whnf) | (refine wl_rem rfl rfl rfl rfl rfl rfl (by omega) (by omega) (fun r hr hr0 hr1 hr2 => run_l tabOk ?_); conv => whnf) | (refine wl_quo rfl rfl rfl rfl rfl rfl (by omega) (by omega) (by simp only [inK]; omega) (run_l tabOk ?_); conv => whnf) | (refine wl_mul rfl rfl rfl rfl rfl rfl (by omega) (by omega) (run_l tabOk ?_); conv => whnf) | (refine gs_dt (by first | assumption | omega) ?_; conv => whnf) | (refine gs_df (by first | assumption | omega) ?_; conv => whnf) | (refine gs_t (by assumption) ?_; conv => whnf) | (refine gs_f (by assumption) ?_; conv => whnf) | (refine gs_d (fun hg => ?_) (fun hg => ?_) <;> conv => whnf) | (refine gs_n (fun hg => ?_) (fun hg => ?_) <;> conv => whnf) | (refine gs_nb (fun hg => ?_) (fun hg => ?_) <;> conv => whnf) | (refine gs_b (fun hg => ?_) (fun hg => ?_) <;> conv => whnf) | refine fin1 rfl rfl ?_))
    refine wl_S (off := 2) tabOk hb3r rfl rfl rfl rfl rfl rfl (by simp) rfl rfl ?_
    intro w6 hp6
    refine run_l tabOk ?_
    conv => whnf
    have hb36 : w6.heap[g3]? = some (.cells #[.int .i64 n, .slice A1 xs.length c1, .slice D zs.length dc] 41 (0, 0)) := hp6.blk
    refine wl_S (off := 1) tabOk hb36 rfl rfl rfl rfl rfl rfl (by simp) rfl rfl ?_
    intro w7 hp7
    refine run_l tabOk ?_
    conv => whnf
    have hb37 : w7.heap[g3]? = some (.cells #[.int .i64 n, .slice none 0 0, .slice D zs.length dc] 41 (0, 0)) := hp7.blk
    have hrow7 := (hrow.other hp6.grown (by simp) (fun k hk e => by have := (hrow.olt k hk).1; omega)).other hp7.grown (by simp) (fun k hk e => by have := (hrow.olt k hk).1; omega)
    have hB7 : Below w.heap.size w w7 := hp7.below (hp6.below (bup hB05 hBr) hg3w (bup hB05 hBr).size) hg3w (by rw [hp6.size]; exact (bup hB05 hBr).size)
    have hzr := hrow7.rowAt.2.2
    clear hrow hp6 hp7 hb36 hrow7
    (repeat' (first | (refine wl_Lag tabOk hb37 rfl rfl rfl rfl rfl rfl (run_l tabOk ?_); conv => whnf) | (refine wl_add rfl rfl rfl rfl rfl rfl (by omega) (by omega) (run_l tabOk ?_); conv => whnf) | (refine wl_sub rfl rfl rfl rfl rfl rfl (by omega) (by omega) (run_l tabOk ?_); conv => whnf) | (refine wl_cvA tabOk rfl rfl rfl (by simp only [inK]; omega) rfl rfl rfl (run_l tabOk ?_); conv => whnf) | (refine wl_cvB tabOk rfl rfl rfl rfl rfl rfl (run_l tabOk ?_); conv => whnf) | (refine wl_rem rfl rfl rfl rfl rfl rfl (by omega) (by omega) (fun r hr hr0 hr1 hr2 => run_l tabOk ?_); conv => whnf) | (refine wl_quo rfl rfl rfl rfl rfl rfl (by omega) (by omega) (by simp only [inK]; omega) (run_l tabOk ?_); conv => whnf) | (refine wl_mul rfl rfl rfl rfl rfl rfl (by omega) (by omega) (run_l tabOk ?_); conv => whnf) | (refine gs_dt (by first | assumption | omega) ?_; conv => whnf) | (refine gs_df (by first | assumption | omega) ?_; conv => whnf) | (refine gs_t (by assumption) ?_; conv => whnf) | (refine gs_f (by assumption) ?_; conv => whnf) | (refine gs_d (fun hg => ?_) (fun hg => ?_) <;> conv => whnf) | (refine gs_n (fun hg => ?_) (fun hg => ?_) <;> conv => whnf) | (refine gs_nb (fun hg => ?_) (fun hg => ?_) <;> conv => whnf) | (refine gs_b (fun hg => ?_) (fun hg => ?_) <;> conv => whnf) | refine fin1 rfl rfl ?_))
    refine wl_C fn16 (graphOfR n [] zs none D 0 dc w7 (RowR.nil ..) hzr hright2) rfl rfl rfl rfl rfl rfl rfl ?_
    rintro _ w8 ⟨A', B', C', rfl, k1, k2, k3, hB8⟩
    have hG := gok hright2
    have hcons : ∀ c ∈ zs, conOk (n : Int) 0 c = true := by
      simp only [rightB, Bool.and_eq_true, List.all_eq_true] at hright2
      exact hright2.2
    have hgc := gfold_copy (n := n) zs (List.replicate (2 * (n : Int).toNat) [], List.replicate (n : Int).toNat []) hall hcons (fun v hv y hy => by
      have hv : v < 2 * (n : Int).toNat := by simpa using hv
      rw [getElem!_pos _ v (by simpa using hv)] at hy
      simp at hy)
    have hni := hG.ni
    have hnb := hG.nb
    have hnl := hG.nl
    refine ⟨_, rfl, run_l tabOk ?_⟩
    have hlab := oLabels n (gfold ⟨n, [], zs⟩).1 (gfold ⟨n, [], zs⟩).2 (looseB ⟨n, [], zs⟩ ++ List.replicate n true) A' B' C' (2 * n) n (2 * n) w8 hG k1 k2 k3
    rw [hni, hnb, hnl] at hlab
    conv => whnf
    refine wl_C fn17 hlab rfl rfl rfl rfl rfl rfl rfl ?_
    rintro _ w9 ⟨kn, of, go, hK, rfl, hR, hB9⟩
    have hLe := Lf_empty hG hK (fun v hv x hx => hgc.1 v (by show v < (gfold ⟨n, [], zs⟩).1.length; omega) x hx) (fun v hv => by
      have e : (gfold ⟨n, [], zs⟩).2 = List.replicate (n : Int).toNat [] := hgc.2
      rw [e, getElem!_pos _ v (by simpa using hv)]
      simp) (fun v hv => by
      rw [loose_copy hall, getElem!_pos _ v (by simp; omega), List.getElem_append_left (by simpa using hv)]
      simp)
    have hb39 := blk_up (bup hB8 hB9) hb37
    refine ⟨_, rfl, run_l tabOk ?_⟩
    conv => whnf
    (repeat' (first | (refine wl_add rfl rfl rfl rfl rfl rfl (by omega) (by omega) (run_l tabOk ?_); conv => whnf) | (refine wl_sub rfl rfl rfl rfl rfl rfl (by omega) (by omega) (run_l tabOk ?_); conv => whnf) | (refine wl_cvA tabOk rfl rfl rfl (by simp only [inK]; omega) rfl rfl rfl (run_l tabOk ?_); conv => whnf) | (refine wl_cvB tabOk rfl rfl rfl rfl rfl rfl (run_l tabOk ?_); conv => whnf) | (refine wl_rem rfl rfl rfl rfl rfl rfl (by omega) (by omega) (fun r hr hr0 hr1 hr2 => run_l tabOk ?_); conv => whnf) | (refine wl_quo rfl rfl rfl rfl rfl rfl (by omega) (by omega) (by simp only [inK]; omega) (run_l tabOk ?_); conv => whnf) | (refine wl_mul rfl rfl rfl rfl rfl rfl (by omega) (by omega) (run_l tabOk ?_); conv => whnf) | (refine gs_dt (by first | assumption | omega) ?_; conv => whnf) | (refine gs_df (by first | assumption | omega) ?_; conv => whnf) | (refine gs_t (by assumption) ?_; conv => whnf) | (refine gs_f (by assumption) ?_; conv => whnf) | (refine gs_d (fun hg => ?_) (fun hg => ?_) <;> conv => whnf) | (refine gs_n (fun hg => ?_) (fun hg => ?_) <;> conv => whnf) | (refine gs_nb (fun hg => ?_) (fun hg => ?_) <;> conv => whnf) | (refine gs_b (fun hg => ?_) (fun hg => ?_) <;> conv => whnf) | refine fin1 rfl rfl ?_))
    refine lp_loop tabOk (X := Nat) (fun v => [(3, .pointer (some ⟨g3, 0, none⟩)), (6, .slice (some ⟨go, 0, none⟩) n n), (7, .int .i64 (v : Int))]) (fun v wi => v ≤ n ∧ wi = w9) (fun v => n - v) 0 ⟨rfl, rfl, rfl, trivial⟩ ⟨by omega, rfl⟩ ?_
    rintro v G2 wi ⟨hv, rfl⟩
    by_cases hvn : v < n
    · obtain ⟨z, ad3, ⟨hz3⟩, e3, hc4, _, _⟩ := intsE hR v (by simpa using hvn)
      rw [getElem!_pos _ v (by simpa using hvn)] at hz3
      simp at hz3
      have hz : z = -1 := by rw [← hz3]; exact hLe v hvn
      subst hz
      injection e3 with e3
      subst e3
      conv => whnf
      (repeat' (first | (refine wl_L tabOk rfl rfl rfl rfl rfl rfl hc4 (run_l tabOk ?_); conv => whnf) | (refine wl_Xn tabOk 3 1 rfl rfl rfl rfl rfl rfl rfl (by omega) (run_l tabOk ?_); conv => whnf) | (refine wl_add rfl rfl rfl rfl rfl rfl (by omega) (by omega) (run_l tabOk ?_); conv => whnf) | (refine wl_sub rfl rfl rfl rfl rfl rfl (by omega) (by omega) (run_l tabOk ?_); conv => whnf) | (refine wl_cvA tabOk rfl rfl rfl (by simp only [inK]; omega) rfl rfl rfl (run_l tabOk ?_); conv => whnf) | (refine wl_cvB tabOk rfl rfl rfl rfl rfl rfl (run_l tabOk ?_); conv => whnf) | (refine wl_rem rfl rfl rfl rfl rfl rfl (by omega) (by omega) (fun r hr hr0 hr1 hr2 => run_l tabOk ?_); conv => whnf) | (refine wl_quo rfl rfl rfl rfl rfl rfl (by omega) (by omega) (by simp only [inK]; omega) (run_l tabOk ?_); conv => whnf) | (refine wl_mul rfl rfl rfl rfl rfl rfl (by omega) (by omega) (run_l tabOk ?_); conv => whnf) | (refine gs_dt (by first | assumption | omega) ?_; conv => whnf) | (refine gs_df (by first | assumption | omega) ?_; conv => whnf) | (refine gs_t (by assumption) ?_; conv => whnf) | (refine gs_f (by assumption) ?_; conv => whnf) | (refine gs_d (fun hg => ?_) (fun hg => ?_) <;> conv => whnf) | (refine gs_n (fun hg => ?_) (fun hg => ?_) <;> conv => whnf) | (refine gs_nb (fun hg => ?_) (fun hg => ?_) <;> conv => whnf) | (refine gs_b (fun hg => ?_) (fun hg => ?_) <;> conv => whnf) | refine fin1 rfl rfl ?_))
      exact ⟨v + 1, ⟨rfl, rfl, rfl, trivial⟩, ⟨hvn, rfl⟩, by omega⟩
    · conv => whnf
      (repeat' (first | (refine wl_Lg tabOk hb39 rfl rfl rfl rfl rfl rfl rfl (run_l tabOk ?_); conv => whnf) | (refine wl_add rfl rfl rfl rfl rfl rfl (by omega) (by omega) (run_l tabOk ?_); conv => whnf) | (refine wl_sub rfl rfl rfl rfl rfl rfl (by omega) (by omega) (run_l tabOk ?_); conv => whnf) | (refine wl_cvA tabOk rfl rfl rfl (by simp only [inK]; omega) rfl rfl rfl (run_l tabOk ?_); conv => whnf) | (refine wl_cvB tabOk rfl rfl rfl rfl rfl rfl (run_l tabOk ?_); conv => whnf) | (refine wl_rem rfl rfl rfl rfl rfl rfl (by omega) (by omega) (fun r hr hr0 hr1 hr2 => run_l tabOk ?_); conv => whnf) | (refine wl_quo rfl rfl rfl rfl rfl rfl (by omega) (by omega) (by simp only [inK]; omega) (run_l tabOk ?_); conv => whnf) | (refine wl_mul rfl rfl rfl rfl rfl rfl (by omega) (by omega) (run_l tabOk ?_); conv => whnf) | (refine gs_dt (by first | assumption | omega) ?_; conv => whnf) | (refine gs_df (by first | assumption | omega) ?_; conv => whnf) | (refine gs_t (by assumption) ?_; conv => whnf) | (refine gs_f (by assumption) ?_; conv => whnf) | (refine gs_d (fun hg => ?_) (fun hg => ?_) <;> conv => whnf) | (refine gs_n (fun hg => ?_) (fun hg => ?_) <;> conv => whnf) | (refine gs_nb (fun hg => ?_) (fun hg => ?_) <;> conv => whnf) | (refine gs_b (fun hg => ?_) (fun hg => ?_) <;> conv => whnf) | refine fin1 rfl rfl ?_))
      exact ⟨by rw [decide_eq_true (rfl : (n : Int) = (n : Int))], bup hB7 (bup hB8 hB9)⟩
end Go.Proofs.Ytomldckplkecbaa
