/- The walk of GraphStores. -/
import Derived.Test.YtmlepfngcpekiaaL1502
namespace Go.Proofs.Ytmlepfngcpekiaa
open Go.RowKit
set_option linter.unusedVariables false
set_option linter.unusedSimpArgs false
set_option maxRecDepth 100000
def keepC (c : Con) : Bool := !decide (c.k = 4) && !decide (c.k = 5)
theorem gfold_keep (vars : Int) : ∀ (l : List Con) (p : List (List Int) × List (List Int)), l.foldl (gstep vars) p = (l.filter keepC).foldl (gstep vars) p
  | [], p => rfl
  | c :: l, p => by
    rw [List.foldl_cons, gfold_keep vars l]
    by_cases h : keepC c = true
    · rw [List.filter_cons_of_pos h, List.foldl_cons]
    · rw [List.filter_cons_of_neg h]
      have : gstep vars p c = p := by
        have h' : c.k = 4 ∨ c.k = 5 := by
          simp only [keepC, Bool.and_eq_true, Bool.not_eq_true', decide_eq_false_iff_not] at h
          omega
        unfold gstep
        rw [if_neg (by omega), if_neg (by omega), if_neg (by omega)]
      rw [this]
theorem right_keep {n : Int} {xs : List Cell} {ys : List Con} (h : rightB ⟨n, xs, ys⟩ = true) : rightB ⟨n, xs, ys.filter keepC⟩ = true := by
  simp only [rightB, bigOk, Bool.and_eq_true, decide_eq_true_eq, List.all_eq_true] at h ⊢
  have := List.length_filter_le keepC ys
  exact ⟨⟨⟨h.1.1.1, by omega⟩, h.1.2⟩, fun c hc => h.2 c (List.mem_filter.1 hc).1⟩
theorem loose_keep {n : Int} {xs : List Cell} {ys : List Con} {v : Int} (h : looseAt ⟨n, xs, ys.filter keepC⟩ v = true) : looseAt ⟨n, xs, ys⟩ v = true := by
  simp only [looseAt, Bool.or_eq_true, List.any_eq_true] at h ⊢
  rcases h with h | ⟨c, hc, h⟩
  · exact .inl h
  · exact .inr ⟨c, (List.mem_filter.1 hc).1, h⟩
theorem cellsAt_keep {w w' : World} {a : Addr} : ∀ {cs : List Value} {i : Nat}, w'.heap[a.block]? = w.heap[a.block]? → cellsAt w a i cs → cellsAt w' a i cs
  | [], _, _, h => h
  | v :: cs, i, hb, h => ⟨(World.cell?_of_block (by rw [add_block]; exact hb)).trans h.1, cellsAt_keep hb h.2⟩
theorem filter_take {α : Type} [Inhabited α] (p : α → Bool) {xs : List α} {i : Nat} (h : i < xs.length) : (xs.take (i + 1)).filter p = (xs.take i).filter p ++ (if p xs[i]! then [xs[i]!] else []) := by
  rw [take_next h, List.filter_append]
  congr 1
  by_cases hp : p xs[i]! = true
  · rw [if_pos hp, List.filter_cons_of_pos hp]; rfl
  · rw [if_neg hp, List.filter_cons_of_neg hp]; rfl
set_option maxHeartbeats 8000000 in
theorem lawGraphStores (d : Draft) (A : Option Addr) (c : Nat) (w : World) (h : RActs w A d.acts) (hk : (0 ≤ d.vars ∧ d.vars ≤ 255) ∧ 0 ≤ d.cells ∧ d.cells ≤ 255) :
    Calls Try.prog 12 #[.agg #[.int .u8 d.vars, .int .u8 d.cells, .slice A d.acts.length c]] w fun e w' => e = .returned (.bool true) ∧ Below w.heap.size w w' := by
  refine enterR (args := [.agg #[.int .u8 d.vars, .int .u8 d.cells, .slice A d.acts.length c]]) tabOk Try.func12 rfl Try.ntmps12 rfl ?_; conv => whnf
  refine wl_box rfl rfl rfl rfl rfl rfl ?_
  intro g1 w1 hn1
  refine run_l tabOk ?_
  conv => whnf
  refine wl_C fn30 (awake15 _) rfl rfl rfl rfl rfl rfl rfl ?_
  rintro _ w2 ⟨rfl, hB2⟩
  have hb := blk_up hB2 hn1.blk
  have hB := bup hn1.below hB2
  refine ⟨_, rfl, run_l tabOk ?_⟩
  conv => whnf
  (repeat' (first | (refine wl_Lg tabOk hb rfl rfl rfl rfl rfl rfl rfl (run_l tabOk ?_); conv => whnf) | (refine wl_add rfl rfl rfl rfl rfl rfl (by omega) (by omega) (run_l tabOk ?_); conv => whnf) | (refine wl_sub rfl rfl rfl rfl rfl rfl (by omega) (by omega) (run_l tabOk ?_); conv => whnf) | (refine wl_cv tabOk .i64 rfl rfl rfl (by simp only [inK]; omega) rfl rfl rfl (run_l tabOk ?_); conv => whnf) | (refine wl_cv tabOk .u8 rfl rfl rfl (by simp only [inK]; omega) rfl rfl rfl (run_l tabOk ?_); conv => whnf) | (refine wl_cv tabOk .u16 rfl rfl rfl (by simp only [inK]; omega) rfl rfl rfl (run_l tabOk ?_); conv => whnf) | (refine wl_cv tabOk .i32 rfl rfl rfl (by simp only [inK]; omega) rfl rfl rfl (run_l tabOk ?_); conv => whnf) | (refine wl_cv tabOk .u32 rfl rfl rfl (by simp only [inK]; omega) rfl rfl rfl (run_l tabOk ?_); conv => whnf) | (refine wl_cv tabOk .u64 rfl rfl rfl (by simp only [inK]; omega) rfl rfl rfl (run_l tabOk ?_); conv => whnf) | (refine wl_cvw tabOk .i64 rfl rfl rfl rfl rfl rfl (run_l tabOk ?_); conv => whnf) | (refine wl_cvw tabOk .u8 rfl rfl rfl rfl rfl rfl (run_l tabOk ?_); conv => whnf) | (refine wl_cvw tabOk .u16 rfl rfl rfl rfl rfl rfl (run_l tabOk ?_); conv => whnf) | (refine wl_cvw tabOk .i32 rfl rfl rfl rfl rfl rfl (run_l tabOk ?_); conv => whnf) | (refine wl_cvw tabOk .u32 rfl rfl rfl rfl rfl rfl (run_l tabOk ?_); conv => whnf) | (refine wl_cvw tabOk .u64 rfl rfl rfl rfl rfl rfl (run_l tabOk ?_); conv => whnf) | (refine wl_rem rfl rfl rfl rfl rfl rfl (by omega) (by omega) (fun r hr hr0 hr1 hr2 => run_l tabOk ?_); conv => whnf) | (refine wl_quo rfl rfl rfl rfl rfl rfl (by omega) (by omega) (by simp only [inK]; omega) (run_l tabOk ?_); conv => whnf) | (refine wl_mul rfl rfl rfl rfl rfl rfl (by omega) (by omega) (run_l tabOk ?_); conv => whnf) | (refine gs_dt (by first | assumption | omega) ?_; conv => whnf) | (refine gs_df (by first | assumption | omega) ?_; conv => whnf) | (refine gs_t (by assumption) ?_; conv => whnf) | (refine gs_f (by assumption) ?_; conv => whnf) | (refine gs_d (fun hg => ?_) (fun hg => ?_) <;> conv => whnf) | (refine gs_n (fun hg => ?_) (fun hg => ?_) <;> conv => whnf) | (refine gs_nb (fun hg => ?_) (fun hg => ?_) <;> conv => whnf) | (refine gs_b (fun hg => ?_) (fun hg => ?_) <;> conv => whnf) | refine fin1 rfl rfl ?_))
  · refine wl_C fn30 (awake15 _) rfl rfl rfl rfl rfl rfl rfl ?_
    rintro _ w3 ⟨rfl, hB3⟩
    refine ⟨_, rfl, run_l tabOk ?_⟩
    conv => whnf
    (repeat' (first | (refine wl_add rfl rfl rfl rfl rfl rfl (by omega) (by omega) (run_l tabOk ?_); conv => whnf) | (refine wl_sub rfl rfl rfl rfl rfl rfl (by omega) (by omega) (run_l tabOk ?_); conv => whnf) | (refine wl_cv tabOk .i64 rfl rfl rfl (by simp only [inK]; omega) rfl rfl rfl (run_l tabOk ?_); conv => whnf) | (refine wl_cv tabOk .u8 rfl rfl rfl (by simp only [inK]; omega) rfl rfl rfl (run_l tabOk ?_); conv => whnf) | (refine wl_cv tabOk .u16 rfl rfl rfl (by simp only [inK]; omega) rfl rfl rfl (run_l tabOk ?_); conv => whnf) | (refine wl_cv tabOk .i32 rfl rfl rfl (by simp only [inK]; omega) rfl rfl rfl (run_l tabOk ?_); conv => whnf) | (refine wl_cv tabOk .u32 rfl rfl rfl (by simp only [inK]; omega) rfl rfl rfl (run_l tabOk ?_); conv => whnf) | (refine wl_cv tabOk .u64 rfl rfl rfl (by simp only [inK]; omega) rfl rfl rfl (run_l tabOk ?_); conv => whnf) | (refine wl_cvw tabOk .i64 rfl rfl rfl rfl rfl rfl (run_l tabOk ?_); conv => whnf) | (refine wl_cvw tabOk .u8 rfl rfl rfl rfl rfl rfl (run_l tabOk ?_); conv => whnf) | (refine wl_cvw tabOk .u16 rfl rfl rfl rfl rfl rfl (run_l tabOk ?_); conv => whnf) | (refine wl_cvw tabOk .i32 rfl rfl rfl rfl rfl rfl (run_l tabOk ?_); conv => whnf) | (refine wl_cvw tabOk .u32 rfl rfl rfl rfl rfl rfl (run_l tabOk ?_); conv => whnf) | (refine wl_cvw tabOk .u64 rfl rfl rfl rfl rfl rfl (run_l tabOk ?_); conv => whnf) | (refine wl_rem rfl rfl rfl rfl rfl rfl (by omega) (by omega) (fun r hr hr0 hr1 hr2 => run_l tabOk ?_); conv => whnf) | (refine wl_quo rfl rfl rfl rfl rfl rfl (by omega) (by omega) (by simp only [inK]; omega) (run_l tabOk ?_); conv => whnf) | (refine wl_mul rfl rfl rfl rfl rfl rfl (by omega) (by omega) (run_l tabOk ?_); conv => whnf) | (refine gs_dt (by first | assumption | omega) ?_; conv => whnf) | (refine gs_df (by first | assumption | omega) ?_; conv => whnf) | (refine gs_t (by assumption) ?_; conv => whnf) | (refine gs_f (by assumption) ?_; conv => whnf) | (refine gs_d (fun hg => ?_) (fun hg => ?_) <;> conv => whnf) | (refine gs_n (fun hg => ?_) (fun hg => ?_) <;> conv => whnf) | (refine gs_nb (fun hg => ?_) (fun hg => ?_) <;> conv => whnf) | (refine gs_b (fun hg => ?_) (fun hg => ?_) <;> conv => whnf) | refine fin1 rfl rfl ?_))
    exact ⟨rfl, bup hB hB3⟩
  (repeat' (first | (refine wl_Lag tabOk hb rfl rfl rfl rfl rfl rfl (run_l tabOk ?_); conv => whnf) | (refine wl_add rfl rfl rfl rfl rfl rfl (by omega) (by omega) (run_l tabOk ?_); conv => whnf) | (refine wl_sub rfl rfl rfl rfl rfl rfl (by omega) (by omega) (run_l tabOk ?_); conv => whnf) | (refine wl_cv tabOk .i64 rfl rfl rfl (by simp only [inK]; omega) rfl rfl rfl (run_l tabOk ?_); conv => whnf) | (refine wl_cv tabOk .u8 rfl rfl rfl (by simp only [inK]; omega) rfl rfl rfl (run_l tabOk ?_); conv => whnf) | (refine wl_cv tabOk .u16 rfl rfl rfl (by simp only [inK]; omega) rfl rfl rfl (run_l tabOk ?_); conv => whnf) | (refine wl_cv tabOk .i32 rfl rfl rfl (by simp only [inK]; omega) rfl rfl rfl (run_l tabOk ?_); conv => whnf) | (refine wl_cv tabOk .u32 rfl rfl rfl (by simp only [inK]; omega) rfl rfl rfl (run_l tabOk ?_); conv => whnf) | (refine wl_cv tabOk .u64 rfl rfl rfl (by simp only [inK]; omega) rfl rfl rfl (run_l tabOk ?_); conv => whnf) | (refine wl_cvw tabOk .i64 rfl rfl rfl rfl rfl rfl (run_l tabOk ?_); conv => whnf) | (refine wl_cvw tabOk .u8 rfl rfl rfl rfl rfl rfl (run_l tabOk ?_); conv => whnf) | (refine wl_cvw tabOk .u16 rfl rfl rfl rfl rfl rfl (run_l tabOk ?_); conv => whnf) | (refine wl_cvw tabOk .i32 rfl rfl rfl rfl rfl rfl (run_l tabOk ?_); conv => whnf) | (refine wl_cvw tabOk .u32 rfl rfl rfl rfl rfl rfl (run_l tabOk ?_); conv => whnf) | (refine wl_cvw tabOk .u64 rfl rfl rfl rfl rfl rfl (run_l tabOk ?_); conv => whnf) | (refine wl_rem rfl rfl rfl rfl rfl rfl (by omega) (by omega) (fun r hr hr0 hr1 hr2 => run_l tabOk ?_); conv => whnf) | (refine wl_quo rfl rfl rfl rfl rfl rfl (by omega) (by omega) (by simp only [inK]; omega) (run_l tabOk ?_); conv => whnf) | (refine wl_mul rfl rfl rfl rfl rfl rfl (by omega) (by omega) (run_l tabOk ?_); conv => whnf) | (refine gs_dt (by first | assumption | omega) ?_; conv => whnf) | (refine gs_df (by first | assumption | omega) ?_; conv => whnf) | (refine gs_t (by assumption) ?_; conv => whnf) | (refine gs_f (by assumption) ?_; conv => whnf) | (refine gs_d (fun hg => ?_) (fun hg => ?_) <;> conv => whnf) | (refine gs_n (fun hg => ?_) (fun hg => ?_) <;> conv => whnf) | (refine gs_nb (fun hg => ?_) (fun hg => ?_) <;> conv => whnf) | (refine gs_b (fun hg => ?_) (fun hg => ?_) <;> conv => whnf) | refine fin1 rfl rfl ?_))
  refine wl_C fn22 (refMake d A c w2 (h.up stays_Act hB) hk.1 hk.2) rfl rfl rfl rfl rfl rfl rfl ?_
  rintro _ w3 ⟨s, va, vb', bs, cs, rfl, hB3, hM⟩
  have hright := hM.right
  have hncons := hM.ncons
  have hvars := hM.vars
  have hgood := hM.gcons
  obtain ⟨A1, c1, rfl, _, hr1⟩ := hM.cells.row
  obtain ⟨A2, c2, rfl, _, hr2⟩ := hM.cons.row
  have hB03 := bup hB hB3
  clear hM hb hB2 hn1
  obtain ⟨vars, xs, ys⟩ := s
  simp only at hright hncons hvars hr1 hr2 hgood
  obtain ⟨n, rfl⟩ : ∃ n : Nat, vars = n := ⟨vars.toNat, by omega⟩
  have hnoarg : ∀ i, i < ys.length → keepC ys[i]! = true → ys[i]!.args = [] := fun i hi hkp => by
    have := hgood i hi
    simp only [conOk, Bool.and_eq_true, Bool.or_eq_true, decide_eq_true_eq] at this
    simp only [keepC, Bool.and_eq_true, Bool.not_eq_true', decide_eq_false_iff_not] at hkp
    rcases this.1.2 with h5 | h0
    · exact absurd h5 hkp.2
    · exact List.eq_nil_of_length_eq_zero h0
  refine ⟨_, rfl, run_l tabOk ?_⟩
  conv => whnf
  refine wl_alloc tabOk rfl rfl rfl rfl rfl rfl ?_
  intro g3 w4 hn4
  refine wl_Sa tabOk hn4.blk rfl rfl rfl rfl rfl (by simp [Value.oneCell']) rfl rfl ?_
  intro w5 hp5
  have hB5 : Below w3.heap.size w3 w5 := hp5.below hn4.below (by have := hn4.at_; omega) (by have := hn4.size; omega)
  have hb3 : w5.heap[g3]? = some (.cells #[.int .i64 n, .slice A1 xs.length c1, .slice A2 ys.length c2] 25 (0, 0)) := hp5.blk
  have hr1 := hr1.up stays_Cell hB5
  have hr2 := hr2.up stays_Con hB5
  have hB05 := bup hB03 hB5
  clear hp5 hn4 hB03 hB5 hB3 hgood
  refine run_l tabOk ?_
  conv => whnf
  (repeat' (first | (refine wl_Lag tabOk hb3 rfl rfl rfl rfl rfl rfl (run_l tabOk ?_); conv => whnf) | (refine wl_add rfl rfl rfl rfl rfl rfl (by omega) (by omega) (run_l tabOk ?_); conv => whnf) | (refine wl_sub rfl rfl rfl rfl rfl rfl (by omega) (by omega) (run_l tabOk ?_); conv => whnf) | (refine wl_cv tabOk .i64 rfl rfl rfl (by simp only [inK]; omega) rfl rfl rfl (run_l tabOk ?_); conv => whnf) | (refine wl_cv tabOk .u8 rfl rfl rfl (by simp only [inK]; omega) rfl rfl rfl (run_l tabOk ?_); conv => whnf) | (refine wl_cv tabOk .u16 rfl rfl rfl (by simp only [inK]; omega) rfl rfl rfl (run_l tabOk ?_); conv => whnf) | (refine wl_cv tabOk .i32 rfl rfl rfl (by simp only [inK]; omega) rfl rfl rfl (run_l tabOk ?_); conv => whnf) | (refine wl_cv tabOk .u32 rfl rfl rfl (by simp only [inK]; omega) rfl rfl rfl (run_l tabOk ?_); conv => whnf) | (refine wl_cv tabOk .u64 rfl rfl rfl (by simp only [inK]; omega) rfl rfl rfl (run_l tabOk ?_); conv => whnf) | (refine wl_cvw tabOk .i64 rfl rfl rfl rfl rfl rfl (run_l tabOk ?_); conv => whnf) | (refine wl_cvw tabOk .u8 rfl rfl rfl rfl rfl rfl (run_l tabOk ?_); conv => whnf) | (refine wl_cvw tabOk .u16 rfl rfl rfl rfl rfl rfl (run_l tabOk ?_); conv => whnf) | (refine wl_cvw tabOk .i32 rfl rfl rfl rfl rfl rfl (run_l tabOk ?_); conv => whnf) | (refine wl_cvw tabOk .u32 rfl rfl rfl rfl rfl rfl (run_l tabOk ?_); conv => whnf) | (refine wl_cvw tabOk .u64 rfl rfl rfl rfl rfl rfl (run_l tabOk ?_); conv => whnf) | (refine wl_rem rfl rfl rfl rfl rfl rfl (by omega) (by omega) (fun r hr hr0 hr1 hr2 => run_l tabOk ?_); conv => whnf) | (refine wl_quo rfl rfl rfl rfl rfl rfl (by omega) (by omega) (by simp only [inK]; omega) (run_l tabOk ?_); conv => whnf) | (refine wl_mul rfl rfl rfl rfl rfl rfl (by omega) (by omega) (run_l tabOk ?_); conv => whnf) | (refine gs_dt (by first | assumption | omega) ?_; conv => whnf) | (refine gs_df (by first | assumption | omega) ?_; conv => whnf) | (refine gs_t (by assumption) ?_; conv => whnf) | (refine gs_f (by assumption) ?_; conv => whnf) | (refine gs_d (fun hg => ?_) (fun hg => ?_) <;> conv => whnf) | (refine gs_n (fun hg => ?_) (fun hg => ?_) <;> conv => whnf) | (refine gs_nb (fun hg => ?_) (fun hg => ?_) <;> conv => whnf) | (refine gs_b (fun hg => ?_) (fun hg => ?_) <;> conv => whnf) | refine fin1 rfl rfl ?_))
  refine wl_alloc tabOk rfl rfl rfl rfl rfl rfl ?_
  intro g4 w6 hn6
  refine wl_Sa tabOk hn6.blk rfl rfl rfl rfl rfl (by simp [Value.oneCell']) rfl rfl ?_
  intro w7 hp7
  refine run_l tabOk ?_
  conv => whnf
  refine wl_S (off := 2) tabOk hp7.blk rfl rfl rfl rfl rfl rfl (by simp) rfl rfl ?_
  intro w8 hp8
  have hB6 : Below w5.heap.size w5 w8 := hp8.below (hp7.below hn6.below (by have := hn6.at_; omega) (by have := hn6.size; omega)) (by have := hn6.at_; omega) (by have := hn6.size; have := hp7.size; omega)
  have hb4 : w8.heap[g4]? = some (.cells #[.int .i64 n, .slice A1 xs.length c1, .slice none 0 0] 25 (0, 0)) := hp8.blk
  have hg4 : w5.heap.size = g4 := by have := hn6.at_; omega
  have hg4' : g4 < w8.heap.size := blk_lt hb4
  have hg3' := blk_lt hb3
  clear hp8 hp7 hn6
  have hm2 := hr2.1
  refine run_l tabOk ?_
  conv => whnf
  refine lp_loop tabOk (X := Nat × Option Addr × Nat) (fun x => [(3, .pointer (some ⟨g3, 0, none⟩)), (4, .pointer (some ⟨g4, 0, none⟩)), (5, .int .i64 x.1)])
    (fun x wr => x.1 ≤ ys.length ∧ Below w5.heap.size w5 wr ∧ w8.heap.size ≤ wr.heap.size ∧ wr.heap[g4]? = some (.cells #[.int .i64 n, .slice A1 xs.length c1, .slice x.2.1 ((ys.take x.1).filter keepC).length x.2.2] 25 (0, 0)) ∧ GRow 4 dCon 35 w8.heap.size wr (.slice x.2.1 ((ys.take x.1).filter keepC).length x.2.2) ((ys.take x.1).filter keepC) []) (fun x => ys.length - x.1) (0, none, 0) ⟨rfl, rfl, rfl, trivial⟩ ⟨by simp, hB6, Nat.le_refl _, hb4, GRow.nil ..⟩ ?_
  rintro ⟨i, D, dc⟩ G wr ⟨hi, hBr, hsz, hb4r, hrow⟩
  simp only at hi hBr hsz hb4r hrow
  conv => whnf
  have hb3r := blk_up hBr hb3
  by_cases hil : i < ys.length
  · obtain ⟨x, ad, D0, dc0, hx, rfl, f0, f1, f2, f3, _, _, hk0, hk255⟩ := cons_at (hr2.up stays_Con hBr) i hil
    have hna := hnoarg i hil
    rw [hx.out] at hna
    have hft := filter_take keepC hil
    rw [hx.out] at hft
    (repeat' (first | (refine wl_Lg tabOk hb3r rfl rfl rfl rfl rfl rfl rfl (run_l tabOk ?_); conv => whnf) | (refine wl_L tabOk rfl rfl rfl rfl rfl rfl f0 (run_l tabOk ?_); conv => whnf) | (refine wl_Xn tabOk 35 4 rfl rfl rfl rfl rfl rfl rfl (by omega) (run_l tabOk ?_); conv => whnf) | (refine wl_add rfl rfl rfl rfl rfl rfl (by omega) (by omega) (run_l tabOk ?_); conv => whnf) | (refine wl_sub rfl rfl rfl rfl rfl rfl (by omega) (by omega) (run_l tabOk ?_); conv => whnf) | (refine wl_cv tabOk .i64 rfl rfl rfl (by simp only [inK]; omega) rfl rfl rfl (run_l tabOk ?_); conv => whnf) | (refine wl_cv tabOk .u8 rfl rfl rfl (by simp only [inK]; omega) rfl rfl rfl (run_l tabOk ?_); conv => whnf) | (refine wl_cv tabOk .u16 rfl rfl rfl (by simp only [inK]; omega) rfl rfl rfl (run_l tabOk ?_); conv => whnf) | (refine wl_cv tabOk .i32 rfl rfl rfl (by simp only [inK]; omega) rfl rfl rfl (run_l tabOk ?_); conv => whnf) | (refine wl_cv tabOk .u32 rfl rfl rfl (by simp only [inK]; omega) rfl rfl rfl (run_l tabOk ?_); conv => whnf) | (refine wl_cv tabOk .u64 rfl rfl rfl (by simp only [inK]; omega) rfl rfl rfl (run_l tabOk ?_); conv => whnf) | (refine wl_cvw tabOk .i64 rfl rfl rfl rfl rfl rfl (run_l tabOk ?_); conv => whnf) | (refine wl_cvw tabOk .u8 rfl rfl rfl rfl rfl rfl (run_l tabOk ?_); conv => whnf) | (refine wl_cvw tabOk .u16 rfl rfl rfl rfl rfl rfl (run_l tabOk ?_); conv => whnf) | (refine wl_cvw tabOk .i32 rfl rfl rfl rfl rfl rfl (run_l tabOk ?_); conv => whnf) | (refine wl_cvw tabOk .u32 rfl rfl rfl rfl rfl rfl (run_l tabOk ?_); conv => whnf) | (refine wl_cvw tabOk .u64 rfl rfl rfl rfl rfl rfl (run_l tabOk ?_); conv => whnf) | (refine wl_rem rfl rfl rfl rfl rfl rfl (by omega) (by omega) (fun r hr hr0 hr1 hr2 => run_l tabOk ?_); conv => whnf) | (refine wl_quo rfl rfl rfl rfl rfl rfl (by omega) (by omega) (by simp only [inK]; omega) (run_l tabOk ?_); conv => whnf) | (refine wl_mul rfl rfl rfl rfl rfl rfl (by omega) (by omega) (run_l tabOk ?_); conv => whnf) | (refine gs_dt (by first | assumption | omega) ?_; conv => whnf) | (refine gs_df (by first | assumption | omega) ?_; conv => whnf) | (refine gs_t (by assumption) ?_; conv => whnf) | (refine gs_f (by assumption) ?_; conv => whnf) | (refine gs_d (fun hg => ?_) (fun hg => ?_) <;> conv => whnf) | (refine gs_n (fun hg => ?_) (fun hg => ?_) <;> conv => whnf) | (refine gs_nb (fun hg => ?_) (fun hg => ?_) <;> conv => whnf) | (refine gs_b (fun hg => ?_) (fun hg => ?_) <;> conv => whnf) | refine fin1 rfl rfl ?_))
    · -- kept
      have hkp : keepC x = true := by simp [keepC]; omega
      rw [if_pos hkp] at hft
      have hargs := hna hkp
      obtain ⟨x', ad', D1, dc1, hx', e1, e0, hc0, _, hka, hkb, hra, hrb⟩ := consE (hr2.up stays_Con hBr) i hil
      cases e1
      have exx : x' = x := hx'.out.symm.trans hx.out
      subst exx
      rw [hargs] at e0
      obtain ⟨flat, hown, hel⟩ := hrow.own
      have hol := hrow.olt
      have hsm := List.length_filter_le keepC (ys.take i)
      rw [List.length_take] at hsm
      have kp : ∀ (k : Nat) (o : Obj), wr.heap[k]? = some o → k < w8.heap.size → ∀ w', Gw wr (Value.slice D ((ys.take i).filter keepC).length dc).ownBlock w' → w'.heap[k]? = some o := fun k o hk hlt w' hw' => (hw'.block k (blk_lt hk) (fun e => by have := (hol k e.symm).1; omega)).trans hk
      have hk3 := kp g3 _ hb3r (by omega)
      have hk4 := kp g4 _ hb4r hg4'
      have hadl : ad.block < w5.heap.size := by
        obtain ⟨x2, ad2, D2, dc2, _, e2, f02, _⟩ := cons_at hr2 i hil
        cases e2
        have := World.block_lt_of_cell? w5 _ f02
        rwa [add_block] at this
      have hke : ∀ w', Gw wr (Value.slice D ((ys.take i).filter keepC).length dc).ownBlock w' → cellsAt w' (ad.add (i * 4)) 0 [.int .u8 x'.k, .int .i64 x'.a, .int .i64 x'.b, .slice D1 0 dc1] := fun w' hw' => cellsAt_keep (by rw [add_block]; exact hw'.block _ (Nat.lt_of_lt_of_le hadl hBr.size) (fun e => by have := (hol _ e.symm).1; omega)) e0
      refine wc_qx [0, 1, 2, 3, 4, 5, 6] 2 9 (stable_Gw _ ((Value.slice D ((ys.take i).filter keepC).length dc).ownBlock)) tabOk mixed (by kernel_rfl) (grown_refl _ _) ?_; (conv => whnf)
      (repeat' (first | (refine wq_LgC tabOk hk3 rfl rfl rfl rfl rfl rfl rfl (run_q tabOk ?_); conv => whnf) | (refine wq_LgC tabOk hk4 rfl rfl rfl rfl rfl rfl rfl (run_q tabOk ?_); conv => whnf) | (refine wq_Xn tabOk 35 4 rfl rfl rfl rfl rfl rfl rfl (by omega) (run_q tabOk ?_); conv => whnf) | (refine wq_LaC tabOk hke rfl rfl rfl rfl rfl rfl (run_q tabOk ?_); conv => whnf) | (refine wq_add rfl rfl rfl rfl rfl rfl (by omega) (by omega) (run_q tabOk ?_); conv => whnf) | (refine wq_sub rfl rfl rfl rfl rfl rfl (by omega) (by omega) (run_q tabOk ?_); conv => whnf) | (refine wq_cv tabOk .i64 rfl rfl rfl (by simp only [inK]; omega) rfl rfl rfl (run_q tabOk ?_); conv => whnf) | (refine wq_cv tabOk .u8 rfl rfl rfl (by simp only [inK]; omega) rfl rfl rfl (run_q tabOk ?_); conv => whnf) | (refine wq_cv tabOk .u16 rfl rfl rfl (by simp only [inK]; omega) rfl rfl rfl (run_q tabOk ?_); conv => whnf) | (refine wq_cv tabOk .i32 rfl rfl rfl (by simp only [inK]; omega) rfl rfl rfl (run_q tabOk ?_); conv => whnf) | (refine wq_cv tabOk .u32 rfl rfl rfl (by simp only [inK]; omega) rfl rfl rfl (run_q tabOk ?_); conv => whnf) | (refine wq_cv tabOk .u64 rfl rfl rfl (by simp only [inK]; omega) rfl rfl rfl (run_q tabOk ?_); conv => whnf) | (refine wq_cvw tabOk .i64 rfl rfl rfl rfl rfl rfl (run_q tabOk ?_); conv => whnf) | (refine wq_cvw tabOk .u8 rfl rfl rfl rfl rfl rfl (run_q tabOk ?_); conv => whnf) | (refine wq_cvw tabOk .u16 rfl rfl rfl rfl rfl rfl (run_q tabOk ?_); conv => whnf) | (refine wq_cvw tabOk .i32 rfl rfl rfl rfl rfl rfl (run_q tabOk ?_); conv => whnf) | (refine wq_cvw tabOk .u32 rfl rfl rfl rfl rfl rfl (run_q tabOk ?_); conv => whnf) | (refine wq_cvw tabOk .u64 rfl rfl rfl rfl rfl rfl (run_q tabOk ?_); conv => whnf) | (refine wq_rem rfl rfl rfl rfl rfl rfl (by omega) (by omega) (fun r hr hr0 hr1 hr2 => run_q tabOk ?_); conv => whnf) | (refine wq_quo rfl rfl rfl rfl rfl rfl (by omega) (by omega) (by simp only [inK]; omega) (run_q tabOk ?_); conv => whnf) | (refine wq_mul rfl rfl rfl rfl rfl rfl (by omega) (by omega) (run_q tabOk ?_); conv => whnf) | (refine gs_dt (by first | assumption | omega) ?_; conv => whnf) | (refine gs_df (by first | assumption | omega) ?_; conv => whnf) | (refine gs_t (by assumption) ?_; conv => whnf) | (refine gs_f (by assumption) ?_; conv => whnf) | (refine gs_d (fun hg => ?_) (fun hg => ?_) <;> conv => whnf) | (refine gs_n (fun hg => ?_) (fun hg => ?_) <;> conv => whnf) | (refine gs_nb (fun hg => ?_) (fun hg => ?_) <;> conv => whnf) | (refine gs_b (fun hg => ?_) (fun hg => ?_) <;> conv => whnf)))
      intro u1 hu1 hbu1
      conv => whnf
      refine ⟨?_, trivial⟩
      conv => whnf
      refine wb_a (wa_bs tabOk 35 4 rfl rfl rfl rfl rfl rfl rfl rfl rfl ?_)
      intro gn u2 hn2
      refine ⟨grown_trans hu1 (grown_of hn2.below), fun u3 hbu3 hu3 => ?_⟩
      conv => whnf
      refine ⟨?_, trivial⟩
      conv => whnf
      have hB73 := bup hbu1 (bup hn2.below hbu3)
      have hrow3 := hrow.below hB73
      have hown3 := hown.kept (grown_of hB73) (Classical.em _)
      refine wb_a (wa_ap tabOk 35 4 48 hown3 (blk_up hbu3 hn2.blk) rfl rfl rfl rfl rfl rfl rfl rfl rfl rfl (by simp) (by simp [Value.oneCell']) (by omega) (by omega) (by have := hB73.size; omega) ?_)
      intro E ec u4 hown4 hgr4 hob4
      refine ⟨grown_trans hu3 hgr4, fun u5 hbu5 hu5 => ?_⟩
      conv => whnf
      have hrow4 := (hrow3.push (bs' := []) (x := x') (fun w' hw' => hel w' (by simp)) hown4 hgr4 hob4 rfl (fun w' _ => ⟨D1, dc1, by rw [hargs]; rfl, by rw [hargs]; simp, by rw [hargs]; exact RowR.nil .., ⟨hka, hkb⟩, hra, hrb⟩) (by simp) (by simp)).below hbu5
      refine wl_S (off := 2) tabOk (hk4 u5 hu5) rfl rfl rfl rfl rfl rfl (by simp) rfl rfl ?_
      intro u6 hp6
      refine run_l tabOk ?_
      conv => whnf
      (repeat' (first | (refine wl_add rfl rfl rfl rfl rfl rfl (by omega) (by omega) (run_l tabOk ?_); conv => whnf) | (refine wl_sub rfl rfl rfl rfl rfl rfl (by omega) (by omega) (run_l tabOk ?_); conv => whnf) | (refine wl_cv tabOk .i64 rfl rfl rfl (by simp only [inK]; omega) rfl rfl rfl (run_l tabOk ?_); conv => whnf) | (refine wl_cv tabOk .u8 rfl rfl rfl (by simp only [inK]; omega) rfl rfl rfl (run_l tabOk ?_); conv => whnf) | (refine wl_cv tabOk .u16 rfl rfl rfl (by simp only [inK]; omega) rfl rfl rfl (run_l tabOk ?_); conv => whnf) | (refine wl_cv tabOk .i32 rfl rfl rfl (by simp only [inK]; omega) rfl rfl rfl (run_l tabOk ?_); conv => whnf) | (refine wl_cv tabOk .u32 rfl rfl rfl (by simp only [inK]; omega) rfl rfl rfl (run_l tabOk ?_); conv => whnf) | (refine wl_cv tabOk .u64 rfl rfl rfl (by simp only [inK]; omega) rfl rfl rfl (run_l tabOk ?_); conv => whnf) | (refine wl_cvw tabOk .i64 rfl rfl rfl rfl rfl rfl (run_l tabOk ?_); conv => whnf) | (refine wl_cvw tabOk .u8 rfl rfl rfl rfl rfl rfl (run_l tabOk ?_); conv => whnf) | (refine wl_cvw tabOk .u16 rfl rfl rfl rfl rfl rfl (run_l tabOk ?_); conv => whnf) | (refine wl_cvw tabOk .i32 rfl rfl rfl rfl rfl rfl (run_l tabOk ?_); conv => whnf) | (refine wl_cvw tabOk .u32 rfl rfl rfl rfl rfl rfl (run_l tabOk ?_); conv => whnf) | (refine wl_cvw tabOk .u64 rfl rfl rfl rfl rfl rfl (run_l tabOk ?_); conv => whnf) | (refine wl_rem rfl rfl rfl rfl rfl rfl (by omega) (by omega) (fun r hr hr0 hr1 hr2 => run_l tabOk ?_); conv => whnf) | (refine wl_quo rfl rfl rfl rfl rfl rfl (by omega) (by omega) (by simp only [inK]; omega) (run_l tabOk ?_); conv => whnf) | (refine wl_mul rfl rfl rfl rfl rfl rfl (by omega) (by omega) (run_l tabOk ?_); conv => whnf) | (refine gs_dt (by first | assumption | omega) ?_; conv => whnf) | (refine gs_df (by first | assumption | omega) ?_; conv => whnf) | (refine gs_t (by assumption) ?_; conv => whnf) | (refine gs_f (by assumption) ?_; conv => whnf) | (refine gs_d (fun hg => ?_) (fun hg => ?_) <;> conv => whnf) | (refine gs_n (fun hg => ?_) (fun hg => ?_) <;> conv => whnf) | (refine gs_nb (fun hg => ?_) (fun hg => ?_) <;> conv => whnf) | (refine gs_b (fun hg => ?_) (fun hg => ?_) <;> conv => whnf) | refine fin1 rfl rfl ?_))
      have hlen : ((ys.take (i + 1)).filter keepC).length = ((ys.take i).filter keepC).length + 1 := by rw [hft]; simp
      have hB5' : Below w5.heap.size w5 u5 := hBr.grown hu5 hBr.size (fun k hk => by have := (hol k hk).1; omega)
      refine ⟨(i + 1, E, ec), ⟨rfl, rfl, rfl, trivial⟩, ⟨by simp only; omega, hp6.below hB5' (by omega) hB5'.size, by rw [hp6.size]; exact Nat.le_trans hsz hu5.size, by simp only [hlen]; exact hp6.blk, ?_⟩, by simp only; omega⟩
      simp only [hlen]
      rw [hft]
      refine (hrow4.other hp6.grown (by simp) (fun k hk e => ?_))
      have := (hrow4.olt k hk).1
      omega
    all_goals
      have hkp : ¬ keepC x = true := by simp [keepC]; omega
      rw [if_neg hkp, List.append_nil] at hft
      exact ⟨(i + 1, D, dc), ⟨rfl, rfl, rfl, trivial⟩, ⟨by simp only; omega, hBr, hsz, by simp only [hft]; exact hb4r, by simp only [hft]; exact hrow⟩, by simp only; omega⟩
  · rw [List.take_of_length_le (by omega)] at hb4r hrow
    have hright2 := right_keep hright
    obtain ⟨zs, hzs⟩ : ∃ zs, zs = ys.filter keepC := ⟨_, rfl⟩
    have hgf : gfold ⟨n, xs, zs⟩ = gfold ⟨n, xs, ys⟩ := by simp only [gfold, hzs]; exact (gfold_keep _ _ _).symm
    have hlk : ∀ v, looseAt ⟨n, xs, zs⟩ v = true → looseAt ⟨n, xs, ys⟩ v = true := fun v hv => loose_keep (by rw [← hzs]; exact hv)
    rw [← hzs] at hb4r hrow hright2
    have hrt := (hrow.rowAt).2.2
    have hBw := bup hB05 hBr
    have hr1 := hr1.up stays_Cell hBr
    have hr2 := hr2.up stays_Con hBr
    (repeat' (first | (refine wl_Lg tabOk hb3r rfl rfl rfl rfl rfl rfl rfl (run_l tabOk ?_); conv => whnf) | (refine wl_Lag tabOk hb3r rfl rfl rfl rfl rfl rfl (run_l tabOk ?_); conv => whnf) | (refine wl_add rfl rfl rfl rfl rfl rfl (by omega) (by omega) (run_l tabOk ?_); conv => whnf) | (refine wl_sub rfl rfl rfl rfl rfl rfl (by omega) (by omega) (run_l tabOk ?_); conv => whnf) | (refine wl_cv tabOk .i64 rfl rfl rfl (by simp only [inK]; omega) rfl rfl rfl (run_l tabOk ?_); conv => whnf) | (refine wl_cv tabOk .u8 rfl rfl rfl (by simp only [inK]; omega) rfl rfl rfl (run_l tabOk ?_); conv => whnf) | (refine wl_cv tabOk .u16 rfl rfl rfl (by simp only [inK]; omega) rfl rfl rfl (run_l tabOk ?_); conv => whnf) | (refine wl_cv tabOk .i32 rfl rfl rfl (by simp only [inK]; omega) rfl rfl rfl (run_l tabOk ?_); conv => whnf) | (refine wl_cv tabOk .u32 rfl rfl rfl (by simp only [inK]; omega) rfl rfl rfl (run_l tabOk ?_); conv => whnf) | (refine wl_cv tabOk .u64 rfl rfl rfl (by simp only [inK]; omega) rfl rfl rfl (run_l tabOk ?_); conv => whnf) | (refine wl_cvw tabOk .i64 rfl rfl rfl rfl rfl rfl (run_l tabOk ?_); conv => whnf) | (refine wl_cvw tabOk .u8 rfl rfl rfl rfl rfl rfl (run_l tabOk ?_); conv => whnf) | (refine wl_cvw tabOk .u16 rfl rfl rfl rfl rfl rfl (run_l tabOk ?_); conv => whnf) | (refine wl_cvw tabOk .i32 rfl rfl rfl rfl rfl rfl (run_l tabOk ?_); conv => whnf) | (refine wl_cvw tabOk .u32 rfl rfl rfl rfl rfl rfl (run_l tabOk ?_); conv => whnf) | (refine wl_cvw tabOk .u64 rfl rfl rfl rfl rfl rfl (run_l tabOk ?_); conv => whnf) | (refine wl_rem rfl rfl rfl rfl rfl rfl (by omega) (by omega) (fun r hr hr0 hr1 hr2 => run_l tabOk ?_); conv => whnf) | (refine wl_quo rfl rfl rfl rfl rfl rfl (by omega) (by omega) (by simp only [inK]; omega) (run_l tabOk ?_); conv => whnf) | (refine wl_mul rfl rfl rfl rfl rfl rfl (by omega) (by omega) (run_l tabOk ?_); conv => whnf) | (refine gs_dt (by first | assumption | omega) ?_; conv => whnf) | (refine gs_df (by first | assumption | omega) ?_; conv => whnf) | (refine gs_t (by assumption) ?_; conv => whnf) | (refine gs_f (by assumption) ?_; conv => whnf) | (refine gs_d (fun hg => ?_) (fun hg => ?_) <;> conv => whnf) | (refine gs_n (fun hg => ?_) (fun hg => ?_) <;> conv => whnf) | (refine gs_nb (fun hg => ?_) (fun hg => ?_) <;> conv => whnf) | (refine gs_b (fun hg => ?_) (fun hg => ?_) <;> conv => whnf) | refine fin1 rfl rfl ?_))
    refine wl_C fn31 (graphOfR n xs ys A1 A2 c1 c2 wr hr1 hr2 hright) rfl rfl rfl rfl rfl rfl rfl ?_
    rintro _ w9 ⟨G1, G2, G3, rfl, hI, hBs, hL, hB9⟩
    have hb3 := blk_up hB9 hb3r
    have hb4 := blk_up hB9 hb4r
    have hr1 := hr1.up stays_Cell hB9
    have hrt := hrt.up stays_Con hB9
    have hBw := bup hBw hB9
    refine ⟨_, rfl, run_l tabOk ?_⟩
    conv => whnf
    refine wl_alloc tabOk rfl rfl rfl rfl rfl rfl ?_
    intro g6 w10 hn10
    refine wl_Sa tabOk hn10.blk rfl rfl rfl rfl rfl (by simp [Value.oneCell']) rfl rfl ?_
    intro w11 hp11
    have hB11 : Below w9.heap.size w9 w11 := hp11.below hn10.below (by have := hn10.at_; omega) (by have := hn10.size; omega)
    have hb6 := hp11.blk
    have hb3 := blk_up hB11 hb3
    have hb4 := blk_up hB11 hb4
    have hr1 := hr1.up stays_Cell hB11
    have hrt := hrt.up stays_Con hB11
    have hI := hI.up (stays_S (stays_I _)) hB11
    have hBs := hBs.up (stays_S (stays_I _)) hB11
    have hL := hL.up stays_B hB11
    have hBw := bup hBw hB11
    refine run_l tabOk ?_
    conv => whnf
    (repeat' (first | (refine wl_Lag tabOk hb4 rfl rfl rfl rfl rfl rfl (run_l tabOk ?_); conv => whnf) | (refine wl_add rfl rfl rfl rfl rfl rfl (by omega) (by omega) (run_l tabOk ?_); conv => whnf) | (refine wl_sub rfl rfl rfl rfl rfl rfl (by omega) (by omega) (run_l tabOk ?_); conv => whnf) | (refine wl_cv tabOk .i64 rfl rfl rfl (by simp only [inK]; omega) rfl rfl rfl (run_l tabOk ?_); conv => whnf) | (refine wl_cv tabOk .u8 rfl rfl rfl (by simp only [inK]; omega) rfl rfl rfl (run_l tabOk ?_); conv => whnf) | (refine wl_cv tabOk .u16 rfl rfl rfl (by simp only [inK]; omega) rfl rfl rfl (run_l tabOk ?_); conv => whnf) | (refine wl_cv tabOk .i32 rfl rfl rfl (by simp only [inK]; omega) rfl rfl rfl (run_l tabOk ?_); conv => whnf) | (refine wl_cv tabOk .u32 rfl rfl rfl (by simp only [inK]; omega) rfl rfl rfl (run_l tabOk ?_); conv => whnf) | (refine wl_cv tabOk .u64 rfl rfl rfl (by simp only [inK]; omega) rfl rfl rfl (run_l tabOk ?_); conv => whnf) | (refine wl_cvw tabOk .i64 rfl rfl rfl rfl rfl rfl (run_l tabOk ?_); conv => whnf) | (refine wl_cvw tabOk .u8 rfl rfl rfl rfl rfl rfl (run_l tabOk ?_); conv => whnf) | (refine wl_cvw tabOk .u16 rfl rfl rfl rfl rfl rfl (run_l tabOk ?_); conv => whnf) | (refine wl_cvw tabOk .i32 rfl rfl rfl rfl rfl rfl (run_l tabOk ?_); conv => whnf) | (refine wl_cvw tabOk .u32 rfl rfl rfl rfl rfl rfl (run_l tabOk ?_); conv => whnf) | (refine wl_cvw tabOk .u64 rfl rfl rfl rfl rfl rfl (run_l tabOk ?_); conv => whnf) | (refine wl_rem rfl rfl rfl rfl rfl rfl (by omega) (by omega) (fun r hr hr0 hr1 hr2 => run_l tabOk ?_); conv => whnf) | (refine wl_quo rfl rfl rfl rfl rfl rfl (by omega) (by omega) (by simp only [inK]; omega) (run_l tabOk ?_); conv => whnf) | (refine wl_mul rfl rfl rfl rfl rfl rfl (by omega) (by omega) (run_l tabOk ?_); conv => whnf) | (refine gs_dt (by first | assumption | omega) ?_; conv => whnf) | (refine gs_df (by first | assumption | omega) ?_; conv => whnf) | (refine gs_t (by assumption) ?_; conv => whnf) | (refine gs_f (by assumption) ?_; conv => whnf) | (refine gs_d (fun hg => ?_) (fun hg => ?_) <;> conv => whnf) | (refine gs_n (fun hg => ?_) (fun hg => ?_) <;> conv => whnf) | (refine gs_nb (fun hg => ?_) (fun hg => ?_) <;> conv => whnf) | (refine gs_b (fun hg => ?_) (fun hg => ?_) <;> conv => whnf) | refine fin1 rfl rfl ?_))
    refine wl_C fn31 (graphOfR n xs zs A1 D c1 dc w11 hr1 hrt hright2) rfl rfl rfl rfl rfl rfl rfl ?_
    rintro _ w12 ⟨H1, H2, H3, rfl, kI, kBs, kL, hB12⟩
    have hb3 := blk_up hB12 hb3
    have hb6 := blk_up hB12 hb6
    have hI := hI.up (stays_S (stays_I _)) hB12
    have hBs := hBs.up (stays_S (stays_I _)) hB12
    have hL := hL.up stays_B hB12
    have hBw := bup hBw hB12
    refine ⟨_, rfl, run_l tabOk ?_⟩
    conv => whnf
    refine wl_alloc tabOk rfl rfl rfl rfl rfl rfl ?_
    intro g7 w13 hn13
    refine wl_Sa tabOk hn13.blk rfl rfl rfl rfl rfl (by simp [Value.oneCell']) rfl rfl ?_
    intro w14 hp14
    have hB14 : Below w12.heap.size w12 w14 := hp14.below hn13.below (by have := hn13.at_; omega) (by have := hn13.size; omega)
    have hb7 := hp14.blk
    have hb3 := blk_up hB14 hb3
    have hb6 := blk_up hB14 hb6
    have hI := hI.up (stays_S (stays_I _)) hB14
    have hBs := hBs.up (stays_S (stays_I _)) hB14
    have hL := hL.up stays_B hB14
    have kI := kI.up (stays_S (stays_I _)) hB14
    have kBs := kBs.up (stays_S (stays_I _)) hB14
    have kL := kL.up stays_B hB14
    have hBw := bup hBw hB14
    rw [hgf] at kI kBs
    clear hp14 hn13 hp11 hn10 hB12 hB11 hB9 hB14
    have hlenI : (gfold ⟨n, xs, ys⟩).1.length = 2 * n := by have := (gfold_len (n : Int) ys (List.replicate (2 * n) [], List.replicate n [])).1; rw [gfold]; simpa using this
    have hlenB : (gfold ⟨n, xs, ys⟩).2.length = n := by have := (gfold_len (n : Int) ys (List.replicate (2 * n) [], List.replicate n [])).2; rw [gfold]; simpa using this
    have hlenL : ∀ ls : List Con, (looseB ⟨n, xs, ls⟩ ++ List.replicate n true).length = 2 * n := fun ls => by rw [List.length_append, looseB_len, List.length_replicate]; simp; omega
    refine run_l tabOk ?_
    conv => whnf
    (repeat' (first | (refine wl_Lg tabOk hb6 rfl rfl rfl rfl rfl rfl rfl (run_l tabOk ?_); conv => whnf) | (refine wl_Lg tabOk hb7 rfl rfl rfl rfl rfl rfl rfl (run_l tabOk ?_); conv => whnf) | (refine wl_Lg tabOk hb3 rfl rfl rfl rfl rfl rfl rfl (run_l tabOk ?_); conv => whnf) | (refine wl_add rfl rfl rfl rfl rfl rfl (by omega) (by omega) (run_l tabOk ?_); conv => whnf) | (refine wl_sub rfl rfl rfl rfl rfl rfl (by omega) (by omega) (run_l tabOk ?_); conv => whnf) | (refine wl_cv tabOk .i64 rfl rfl rfl (by simp only [inK]; omega) rfl rfl rfl (run_l tabOk ?_); conv => whnf) | (refine wl_cv tabOk .u8 rfl rfl rfl (by simp only [inK]; omega) rfl rfl rfl (run_l tabOk ?_); conv => whnf) | (refine wl_cv tabOk .u16 rfl rfl rfl (by simp only [inK]; omega) rfl rfl rfl (run_l tabOk ?_); conv => whnf) | (refine wl_cv tabOk .i32 rfl rfl rfl (by simp only [inK]; omega) rfl rfl rfl (run_l tabOk ?_); conv => whnf) | (refine wl_cv tabOk .u32 rfl rfl rfl (by simp only [inK]; omega) rfl rfl rfl (run_l tabOk ?_); conv => whnf) | (refine wl_cv tabOk .u64 rfl rfl rfl (by simp only [inK]; omega) rfl rfl rfl (run_l tabOk ?_); conv => whnf) | (refine wl_cvw tabOk .i64 rfl rfl rfl rfl rfl rfl (run_l tabOk ?_); conv => whnf) | (refine wl_cvw tabOk .u8 rfl rfl rfl rfl rfl rfl (run_l tabOk ?_); conv => whnf) | (refine wl_cvw tabOk .u16 rfl rfl rfl rfl rfl rfl (run_l tabOk ?_); conv => whnf) | (refine wl_cvw tabOk .i32 rfl rfl rfl rfl rfl rfl (run_l tabOk ?_); conv => whnf) | (refine wl_cvw tabOk .u32 rfl rfl rfl rfl rfl rfl (run_l tabOk ?_); conv => whnf) | (refine wl_cvw tabOk .u64 rfl rfl rfl rfl rfl rfl (run_l tabOk ?_); conv => whnf) | (refine wl_rem rfl rfl rfl rfl rfl rfl (by omega) (by omega) (fun r hr hr0 hr1 hr2 => run_l tabOk ?_); conv => whnf) | (refine wl_quo rfl rfl rfl rfl rfl rfl (by omega) (by omega) (by simp only [inK]; omega) (run_l tabOk ?_); conv => whnf) | (refine wl_mul rfl rfl rfl rfl rfl rfl (by omega) (by omega) (run_l tabOk ?_); conv => whnf) | (refine gs_dt (by first | assumption | omega) ?_; conv => whnf) | (refine gs_df (by first | assumption | omega) ?_; conv => whnf) | (refine gs_t (by assumption) ?_; conv => whnf) | (refine gs_f (by assumption) ?_; conv => whnf) | (refine gs_d (fun hg => ?_) (fun hg => ?_) <;> conv => whnf) | (refine gs_n (fun hg => ?_) (fun hg => ?_) <;> conv => whnf) | (refine gs_nb (fun hg => ?_) (fun hg => ?_) <;> conv => whnf) | (refine gs_b (fun hg => ?_) (fun hg => ?_) <;> conv => whnf) | refine fin1 rfl rfl ?_))
    refine lp_loop tabOk (X := Nat) (fun v => [(3, .pointer (some ⟨g3, 0, none⟩)), (6, .pointer (some ⟨g6, 0, none⟩)), (7, .pointer (some ⟨g7, 0, none⟩)), (8, .int .i64 v)])
      (fun v wv => v ≤ 2 * n ∧ Below w14.heap.size w14 wv) (fun v => 2 * n - v) 0 ⟨rfl, rfl, rfl, rfl, trivial⟩ ⟨by omega, Below.refl _ _⟩ ?_
    intro v G5 wv ⟨hv, hBv⟩
    conv => whnf
    have hb3v := blk_up hBv hb3
    have hb6v := blk_up hBv hb6
    have hb7v := blk_up hBv hb7
    by_cases hlt : v < 2 * n
    · (repeat' (first | (refine wl_Lg tabOk hb3v rfl rfl rfl rfl rfl rfl rfl (run_l tabOk ?_); conv => whnf) | (refine wl_add rfl rfl rfl rfl rfl rfl (by omega) (by omega) (run_l tabOk ?_); conv => whnf) | (refine wl_sub rfl rfl rfl rfl rfl rfl (by omega) (by omega) (run_l tabOk ?_); conv => whnf) | (refine wl_cv tabOk .i64 rfl rfl rfl (by simp only [inK]; omega) rfl rfl rfl (run_l tabOk ?_); conv => whnf) | (refine wl_cv tabOk .u8 rfl rfl rfl (by simp only [inK]; omega) rfl rfl rfl (run_l tabOk ?_); conv => whnf) | (refine wl_cv tabOk .u16 rfl rfl rfl (by simp only [inK]; omega) rfl rfl rfl (run_l tabOk ?_); conv => whnf) | (refine wl_cv tabOk .i32 rfl rfl rfl (by simp only [inK]; omega) rfl rfl rfl (run_l tabOk ?_); conv => whnf) | (refine wl_cv tabOk .u32 rfl rfl rfl (by simp only [inK]; omega) rfl rfl rfl (run_l tabOk ?_); conv => whnf) | (refine wl_cv tabOk .u64 rfl rfl rfl (by simp only [inK]; omega) rfl rfl rfl (run_l tabOk ?_); conv => whnf) | (refine wl_cvw tabOk .i64 rfl rfl rfl rfl rfl rfl (run_l tabOk ?_); conv => whnf) | (refine wl_cvw tabOk .u8 rfl rfl rfl rfl rfl rfl (run_l tabOk ?_); conv => whnf) | (refine wl_cvw tabOk .u16 rfl rfl rfl rfl rfl rfl (run_l tabOk ?_); conv => whnf) | (refine wl_cvw tabOk .i32 rfl rfl rfl rfl rfl rfl (run_l tabOk ?_); conv => whnf) | (refine wl_cvw tabOk .u32 rfl rfl rfl rfl rfl rfl (run_l tabOk ?_); conv => whnf) | (refine wl_cvw tabOk .u64 rfl rfl rfl rfl rfl rfl (run_l tabOk ?_); conv => whnf) | (refine wl_rem rfl rfl rfl rfl rfl rfl (by omega) (by omega) (fun r hr hr0 hr1 hr2 => run_l tabOk ?_); conv => whnf) | (refine wl_quo rfl rfl rfl rfl rfl rfl (by omega) (by omega) (by simp only [inK]; omega) (run_l tabOk ?_); conv => whnf) | (refine wl_mul rfl rfl rfl rfl rfl rfl (by omega) (by omega) (run_l tabOk ?_); conv => whnf) | (refine gs_dt (by first | assumption | omega) ?_; conv => whnf) | (refine gs_df (by first | assumption | omega) ?_; conv => whnf) | (refine gs_t (by assumption) ?_; conv => whnf) | (refine gs_f (by assumption) ?_; conv => whnf) | (refine gs_d (fun hg => ?_) (fun hg => ?_) <;> conv => whnf) | (refine gs_n (fun hg => ?_) (fun hg => ?_) <;> conv => whnf) | (refine gs_nb (fun hg => ?_) (fun hg => ?_) <;> conv => whnf) | (refine gs_b (fun hg => ?_) (fun hg => ?_) <;> conv => whnf) | refine fin1 rfl rfl ?_))
      obtain ⟨x, ad, D1, d1, hx, rfl, e0, hd1, er⟩ := rowsE (hI.up (stays_S (stays_I _)) hBv) v (by rw [hlenI]; exact hlt)
      obtain ⟨x', ad', D2, d2, hx', rfl, e1, hd2, er2⟩ := rowsE (kI.up (stays_S (stays_I _)) hBv) v (by rw [hlenI]; exact hlt)
      have hxx : x' = x := hx'.out.symm.trans hx.out
      subst hxx
      obtain ⟨ad3, rfl, l0⟩ := rowBE (hL.up stays_B hBv) v (by rw [hlenL]; exact hlt)
      obtain ⟨ad4, rfl, l1⟩ := rowBE (kL.up stays_B hBv) v (by rw [hlenL]; exact hlt)
      rw [loose_get hlt] at l0 l1
      have hlkv := hlk v
      have hsI := sameI_refl x'
      by_cases hvn : v < n
      · obtain ⟨y, ad5, D3, d3, hy, rfl, f0, hd3, fr⟩ := rowsE (hBs.up (stays_S (stays_I _)) hBv) v (by rw [hlenB]; exact hvn)
        obtain ⟨y', ad6, D4, d4, hy', rfl, f1, hd4, fr2⟩ := rowsE (kBs.up (stays_S (stays_I _)) hBv) v (by rw [hlenB]; exact hvn)
        have hyy : y' = y := hy'.out.symm.trans hy.out
        subst hyy
        have hsB := sameI_refl y'
        rw [show decide ((n : Int) ≤ (v : Int)) = false by simp; omega, Bool.false_or] at l0 l1
        refine wc_qr tabOk mixed (by kernel_rfl) ?_; conv => whnf
        (repeat' (first | (refine wq_Lg tabOk hb3v rfl rfl rfl rfl rfl rfl rfl (run_q tabOk ?_); conv => whnf) | (refine wq_Lg tabOk hb6v rfl rfl rfl rfl rfl rfl rfl (run_q tabOk ?_); conv => whnf) | (refine wq_Lg tabOk hb7v rfl rfl rfl rfl rfl rfl rfl (run_q tabOk ?_); conv => whnf) | (refine wq_L tabOk rfl rfl rfl rfl rfl rfl e0 (run_q tabOk ?_); conv => whnf) | (refine wq_L tabOk rfl rfl rfl rfl rfl rfl e1 (run_q tabOk ?_); conv => whnf) | (refine wq_L tabOk rfl rfl rfl rfl rfl rfl f0 (run_q tabOk ?_); conv => whnf) | (refine wq_L tabOk rfl rfl rfl rfl rfl rfl f1 (run_q tabOk ?_); conv => whnf) | (refine wq_L tabOk rfl rfl rfl rfl rfl rfl l0 (run_q tabOk ?_); conv => whnf) | (refine wq_L tabOk rfl rfl rfl rfl rfl rfl l1 (run_q tabOk ?_); conv => whnf) | (refine wq_Xn tabOk 33 1 rfl rfl rfl rfl rfl rfl rfl (by omega) (run_q tabOk ?_); conv => whnf) | (refine wq_Xn tabOk 4 1 rfl rfl rfl rfl rfl rfl rfl (by omega) (run_q tabOk ?_); conv => whnf) | (refine wq_C fn29 (fun w _ => refSameInts x' x' _ _ _ _ _ (er.out.up (stays_I _) (by assumption)) (er2.out.up (stays_I _) (by assumption))) rfl rfl rfl rfl rfl rfl rfl (run_q tabOk ?_); conv => whnf) | (refine wq_C fn29 (fun w _ => refSameInts y' y' _ _ _ _ _ (fr.out.up (stays_I _) (by assumption)) (fr2.out.up (stays_I _) (by assumption))) rfl rfl rfl rfl rfl rfl rfl (run_q tabOk ?_); conv => whnf) | (refine wq_add rfl rfl rfl rfl rfl rfl (by omega) (by omega) (run_q tabOk ?_); conv => whnf) | (refine wq_sub rfl rfl rfl rfl rfl rfl (by omega) (by omega) (run_q tabOk ?_); conv => whnf) | (refine wq_cv tabOk .i64 rfl rfl rfl (by simp only [inK]; omega) rfl rfl rfl (run_q tabOk ?_); conv => whnf) | (refine wq_cv tabOk .u8 rfl rfl rfl (by simp only [inK]; omega) rfl rfl rfl (run_q tabOk ?_); conv => whnf) | (refine wq_cv tabOk .u16 rfl rfl rfl (by simp only [inK]; omega) rfl rfl rfl (run_q tabOk ?_); conv => whnf) | (refine wq_cv tabOk .i32 rfl rfl rfl (by simp only [inK]; omega) rfl rfl rfl (run_q tabOk ?_); conv => whnf) | (refine wq_cv tabOk .u32 rfl rfl rfl (by simp only [inK]; omega) rfl rfl rfl (run_q tabOk ?_); conv => whnf) | (refine wq_cv tabOk .u64 rfl rfl rfl (by simp only [inK]; omega) rfl rfl rfl (run_q tabOk ?_); conv => whnf) | (refine wq_cvw tabOk .i64 rfl rfl rfl rfl rfl rfl (run_q tabOk ?_); conv => whnf) | (refine wq_cvw tabOk .u8 rfl rfl rfl rfl rfl rfl (run_q tabOk ?_); conv => whnf) | (refine wq_cvw tabOk .u16 rfl rfl rfl rfl rfl rfl (run_q tabOk ?_); conv => whnf) | (refine wq_cvw tabOk .i32 rfl rfl rfl rfl rfl rfl (run_q tabOk ?_); conv => whnf) | (refine wq_cvw tabOk .u32 rfl rfl rfl rfl rfl rfl (run_q tabOk ?_); conv => whnf) | (refine wq_cvw tabOk .u64 rfl rfl rfl rfl rfl rfl (run_q tabOk ?_); conv => whnf) | (refine wq_rem rfl rfl rfl rfl rfl rfl (by omega) (by omega) (fun r hr hr0 hr1 hr2 => run_q tabOk ?_); conv => whnf) | (refine wq_quo rfl rfl rfl rfl rfl rfl (by omega) (by omega) (by simp only [inK]; omega) (run_q tabOk ?_); conv => whnf) | (refine wq_mul rfl rfl rfl rfl rfl rfl (by omega) (by omega) (run_q tabOk ?_); conv => whnf) | (refine gs_dt (by first | assumption | omega) ?_; conv => whnf) | (refine gs_df (by first | assumption | omega) ?_; conv => whnf) | (refine gs_t (by assumption) ?_; conv => whnf) | (refine gs_f (by assumption) ?_; conv => whnf) | (refine gs_d (fun hg => ?_) (fun hg => ?_) <;> conv => whnf) | (refine gs_n (fun hg => ?_) (fun hg => ?_) <;> conv => whnf) | (refine gs_nb (fun hg => ?_) (fun hg => ?_) <;> conv => whnf) | (refine gs_b (fun hg => ?_) (fun hg => ?_) <;> conv => whnf)))
        all_goals intro wz hBz
        all_goals conv => whnf
        all_goals (repeat' (first | (refine wl_add rfl rfl rfl rfl rfl rfl (by omega) (by omega) (run_l tabOk ?_); conv => whnf) | (refine wl_sub rfl rfl rfl rfl rfl rfl (by omega) (by omega) (run_l tabOk ?_); conv => whnf) | (refine wl_cv tabOk .i64 rfl rfl rfl (by simp only [inK]; omega) rfl rfl rfl (run_l tabOk ?_); conv => whnf) | (refine wl_cv tabOk .u8 rfl rfl rfl (by simp only [inK]; omega) rfl rfl rfl (run_l tabOk ?_); conv => whnf) | (refine wl_cv tabOk .u16 rfl rfl rfl (by simp only [inK]; omega) rfl rfl rfl (run_l tabOk ?_); conv => whnf) | (refine wl_cv tabOk .i32 rfl rfl rfl (by simp only [inK]; omega) rfl rfl rfl (run_l tabOk ?_); conv => whnf) | (refine wl_cv tabOk .u32 rfl rfl rfl (by simp only [inK]; omega) rfl rfl rfl (run_l tabOk ?_); conv => whnf) | (refine wl_cv tabOk .u64 rfl rfl rfl (by simp only [inK]; omega) rfl rfl rfl (run_l tabOk ?_); conv => whnf) | (refine wl_cvw tabOk .i64 rfl rfl rfl rfl rfl rfl (run_l tabOk ?_); conv => whnf) | (refine wl_cvw tabOk .u8 rfl rfl rfl rfl rfl rfl (run_l tabOk ?_); conv => whnf) | (refine wl_cvw tabOk .u16 rfl rfl rfl rfl rfl rfl (run_l tabOk ?_); conv => whnf) | (refine wl_cvw tabOk .i32 rfl rfl rfl rfl rfl rfl (run_l tabOk ?_); conv => whnf) | (refine wl_cvw tabOk .u32 rfl rfl rfl rfl rfl rfl (run_l tabOk ?_); conv => whnf) | (refine wl_cvw tabOk .u64 rfl rfl rfl rfl rfl rfl (run_l tabOk ?_); conv => whnf) | (refine wl_rem rfl rfl rfl rfl rfl rfl (by omega) (by omega) (fun r hr hr0 hr1 hr2 => run_l tabOk ?_); conv => whnf) | (refine wl_quo rfl rfl rfl rfl rfl rfl (by omega) (by omega) (by simp only [inK]; omega) (run_l tabOk ?_); conv => whnf) | (refine wl_mul rfl rfl rfl rfl rfl rfl (by omega) (by omega) (run_l tabOk ?_); conv => whnf) | (refine gs_dt (by first | assumption | omega) ?_; conv => whnf) | (refine gs_df (by first | assumption | omega) ?_; conv => whnf) | (refine gs_t (by assumption) ?_; conv => whnf) | (refine gs_f (by assumption) ?_; conv => whnf) | (refine gs_d (fun hg => ?_) (fun hg => ?_) <;> conv => whnf) | (refine gs_n (fun hg => ?_) (fun hg => ?_) <;> conv => whnf) | (refine gs_nb (fun hg => ?_) (fun hg => ?_) <;> conv => whnf) | (refine gs_b (fun hg => ?_) (fun hg => ?_) <;> conv => whnf) | refine fin1 rfl rfl ?_))
        all_goals first
          | exact ⟨v + 1, ⟨rfl, rfl, rfl, rfl, trivial⟩, ⟨by omega, bup hBv hBz⟩, by omega⟩
          | (exfalso; simp_all; done)
      · rw [show decide ((n : Int) ≤ (v : Int)) = true by simp; omega, Bool.true_or] at l0 l1
        refine wc_qr tabOk mixed (by kernel_rfl) ?_; conv => whnf
        (repeat' (first | (refine wq_Lg tabOk hb3v rfl rfl rfl rfl rfl rfl rfl (run_q tabOk ?_); conv => whnf) | (refine wq_Lg tabOk hb6v rfl rfl rfl rfl rfl rfl rfl (run_q tabOk ?_); conv => whnf) | (refine wq_Lg tabOk hb7v rfl rfl rfl rfl rfl rfl rfl (run_q tabOk ?_); conv => whnf) | (refine wq_L tabOk rfl rfl rfl rfl rfl rfl e0 (run_q tabOk ?_); conv => whnf) | (refine wq_L tabOk rfl rfl rfl rfl rfl rfl e1 (run_q tabOk ?_); conv => whnf) | (refine wq_L tabOk rfl rfl rfl rfl rfl rfl l0 (run_q tabOk ?_); conv => whnf) | (refine wq_L tabOk rfl rfl rfl rfl rfl rfl l1 (run_q tabOk ?_); conv => whnf) | (refine wq_Xn tabOk 33 1 rfl rfl rfl rfl rfl rfl rfl (by omega) (run_q tabOk ?_); conv => whnf) | (refine wq_Xn tabOk 4 1 rfl rfl rfl rfl rfl rfl rfl (by omega) (run_q tabOk ?_); conv => whnf) | (refine wq_C fn29 (fun w _ => refSameInts x' x' _ _ _ _ _ (er.out.up (stays_I _) (by assumption)) (er2.out.up (stays_I _) (by assumption))) rfl rfl rfl rfl rfl rfl rfl (run_q tabOk ?_); conv => whnf) | (refine wq_add rfl rfl rfl rfl rfl rfl (by omega) (by omega) (run_q tabOk ?_); conv => whnf) | (refine wq_sub rfl rfl rfl rfl rfl rfl (by omega) (by omega) (run_q tabOk ?_); conv => whnf) | (refine wq_cv tabOk .i64 rfl rfl rfl (by simp only [inK]; omega) rfl rfl rfl (run_q tabOk ?_); conv => whnf) | (refine wq_cv tabOk .u8 rfl rfl rfl (by simp only [inK]; omega) rfl rfl rfl (run_q tabOk ?_); conv => whnf) | (refine wq_cv tabOk .u16 rfl rfl rfl (by simp only [inK]; omega) rfl rfl rfl (run_q tabOk ?_); conv => whnf) | (refine wq_cv tabOk .i32 rfl rfl rfl (by simp only [inK]; omega) rfl rfl rfl (run_q tabOk ?_); conv => whnf) | (refine wq_cv tabOk .u32 rfl rfl rfl (by simp only [inK]; omega) rfl rfl rfl (run_q tabOk ?_); conv => whnf) | (refine wq_cv tabOk .u64 rfl rfl rfl (by simp only [inK]; omega) rfl rfl rfl (run_q tabOk ?_); conv => whnf) | (refine wq_cvw tabOk .i64 rfl rfl rfl rfl rfl rfl (run_q tabOk ?_); conv => whnf) | (refine wq_cvw tabOk .u8 rfl rfl rfl rfl rfl rfl (run_q tabOk ?_); conv => whnf) | (refine wq_cvw tabOk .u16 rfl rfl rfl rfl rfl rfl (run_q tabOk ?_); conv => whnf) | (refine wq_cvw tabOk .i32 rfl rfl rfl rfl rfl rfl (run_q tabOk ?_); conv => whnf) | (refine wq_cvw tabOk .u32 rfl rfl rfl rfl rfl rfl (run_q tabOk ?_); conv => whnf) | (refine wq_cvw tabOk .u64 rfl rfl rfl rfl rfl rfl (run_q tabOk ?_); conv => whnf) | (refine wq_rem rfl rfl rfl rfl rfl rfl (by omega) (by omega) (fun r hr hr0 hr1 hr2 => run_q tabOk ?_); conv => whnf) | (refine wq_quo rfl rfl rfl rfl rfl rfl (by omega) (by omega) (by simp only [inK]; omega) (run_q tabOk ?_); conv => whnf) | (refine wq_mul rfl rfl rfl rfl rfl rfl (by omega) (by omega) (run_q tabOk ?_); conv => whnf) | (refine gs_dt (by first | assumption | omega) ?_; conv => whnf) | (refine gs_df (by first | assumption | omega) ?_; conv => whnf) | (refine gs_t (by assumption) ?_; conv => whnf) | (refine gs_f (by assumption) ?_; conv => whnf) | (refine gs_d (fun hg => ?_) (fun hg => ?_) <;> conv => whnf) | (refine gs_n (fun hg => ?_) (fun hg => ?_) <;> conv => whnf) | (refine gs_nb (fun hg => ?_) (fun hg => ?_) <;> conv => whnf) | (refine gs_b (fun hg => ?_) (fun hg => ?_) <;> conv => whnf)))
        all_goals intro wz hBz
        all_goals conv => whnf
        all_goals (repeat' (first | (refine wl_add rfl rfl rfl rfl rfl rfl (by omega) (by omega) (run_l tabOk ?_); conv => whnf) | (refine wl_sub rfl rfl rfl rfl rfl rfl (by omega) (by omega) (run_l tabOk ?_); conv => whnf) | (refine wl_cv tabOk .i64 rfl rfl rfl (by simp only [inK]; omega) rfl rfl rfl (run_l tabOk ?_); conv => whnf) | (refine wl_cv tabOk .u8 rfl rfl rfl (by simp only [inK]; omega) rfl rfl rfl (run_l tabOk ?_); conv => whnf) | (refine wl_cv tabOk .u16 rfl rfl rfl (by simp only [inK]; omega) rfl rfl rfl (run_l tabOk ?_); conv => whnf) | (refine wl_cv tabOk .i32 rfl rfl rfl (by simp only [inK]; omega) rfl rfl rfl (run_l tabOk ?_); conv => whnf) | (refine wl_cv tabOk .u32 rfl rfl rfl (by simp only [inK]; omega) rfl rfl rfl (run_l tabOk ?_); conv => whnf) | (refine wl_cv tabOk .u64 rfl rfl rfl (by simp only [inK]; omega) rfl rfl rfl (run_l tabOk ?_); conv => whnf) | (refine wl_cvw tabOk .i64 rfl rfl rfl rfl rfl rfl (run_l tabOk ?_); conv => whnf) | (refine wl_cvw tabOk .u8 rfl rfl rfl rfl rfl rfl (run_l tabOk ?_); conv => whnf) | (refine wl_cvw tabOk .u16 rfl rfl rfl rfl rfl rfl (run_l tabOk ?_); conv => whnf) | (refine wl_cvw tabOk .i32 rfl rfl rfl rfl rfl rfl (run_l tabOk ?_); conv => whnf) | (refine wl_cvw tabOk .u32 rfl rfl rfl rfl rfl rfl (run_l tabOk ?_); conv => whnf) | (refine wl_cvw tabOk .u64 rfl rfl rfl rfl rfl rfl (run_l tabOk ?_); conv => whnf) | (refine wl_rem rfl rfl rfl rfl rfl rfl (by omega) (by omega) (fun r hr hr0 hr1 hr2 => run_l tabOk ?_); conv => whnf) | (refine wl_quo rfl rfl rfl rfl rfl rfl (by omega) (by omega) (by simp only [inK]; omega) (run_l tabOk ?_); conv => whnf) | (refine wl_mul rfl rfl rfl rfl rfl rfl (by omega) (by omega) (run_l tabOk ?_); conv => whnf) | (refine gs_dt (by first | assumption | omega) ?_; conv => whnf) | (refine gs_df (by first | assumption | omega) ?_; conv => whnf) | (refine gs_t (by assumption) ?_; conv => whnf) | (refine gs_f (by assumption) ?_; conv => whnf) | (refine gs_d (fun hg => ?_) (fun hg => ?_) <;> conv => whnf) | (refine gs_n (fun hg => ?_) (fun hg => ?_) <;> conv => whnf) | (refine gs_nb (fun hg => ?_) (fun hg => ?_) <;> conv => whnf) | (refine gs_b (fun hg => ?_) (fun hg => ?_) <;> conv => whnf) | refine fin1 rfl rfl ?_))
        all_goals first
          | exact ⟨v + 1, ⟨rfl, rfl, rfl, rfl, trivial⟩, ⟨by omega, bup hBv hBz⟩, by omega⟩
          | (exfalso; simp_all; done)
    · (repeat' (first | (refine wl_Lg tabOk hb3v rfl rfl rfl rfl rfl rfl rfl (run_l tabOk ?_); conv => whnf) | (refine wl_add rfl rfl rfl rfl rfl rfl (by omega) (by omega) (run_l tabOk ?_); conv => whnf) | (refine wl_sub rfl rfl rfl rfl rfl rfl (by omega) (by omega) (run_l tabOk ?_); conv => whnf) | (refine wl_cv tabOk .i64 rfl rfl rfl (by simp only [inK]; omega) rfl rfl rfl (run_l tabOk ?_); conv => whnf) | (refine wl_cv tabOk .u8 rfl rfl rfl (by simp only [inK]; omega) rfl rfl rfl (run_l tabOk ?_); conv => whnf) | (refine wl_cv tabOk .u16 rfl rfl rfl (by simp only [inK]; omega) rfl rfl rfl (run_l tabOk ?_); conv => whnf) | (refine wl_cv tabOk .i32 rfl rfl rfl (by simp only [inK]; omega) rfl rfl rfl (run_l tabOk ?_); conv => whnf) | (refine wl_cv tabOk .u32 rfl rfl rfl (by simp only [inK]; omega) rfl rfl rfl (run_l tabOk ?_); conv => whnf) | (refine wl_cv tabOk .u64 rfl rfl rfl (by simp only [inK]; omega) rfl rfl rfl (run_l tabOk ?_); conv => whnf) | (refine wl_cvw tabOk .i64 rfl rfl rfl rfl rfl rfl (run_l tabOk ?_); conv => whnf) | (refine wl_cvw tabOk .u8 rfl rfl rfl rfl rfl rfl (run_l tabOk ?_); conv => whnf) | (refine wl_cvw tabOk .u16 rfl rfl rfl rfl rfl rfl (run_l tabOk ?_); conv => whnf) | (refine wl_cvw tabOk .i32 rfl rfl rfl rfl rfl rfl (run_l tabOk ?_); conv => whnf) | (refine wl_cvw tabOk .u32 rfl rfl rfl rfl rfl rfl (run_l tabOk ?_); conv => whnf) | (refine wl_cvw tabOk .u64 rfl rfl rfl rfl rfl rfl (run_l tabOk ?_); conv => whnf) | (refine wl_rem rfl rfl rfl rfl rfl rfl (by omega) (by omega) (fun r hr hr0 hr1 hr2 => run_l tabOk ?_); conv => whnf) | (refine wl_quo rfl rfl rfl rfl rfl rfl (by omega) (by omega) (by simp only [inK]; omega) (run_l tabOk ?_); conv => whnf) | (refine wl_mul rfl rfl rfl rfl rfl rfl (by omega) (by omega) (run_l tabOk ?_); conv => whnf) | (refine gs_dt (by first | assumption | omega) ?_; conv => whnf) | (refine gs_df (by first | assumption | omega) ?_; conv => whnf) | (refine gs_t (by assumption) ?_; conv => whnf) | (refine gs_f (by assumption) ?_; conv => whnf) | (refine gs_d (fun hg => ?_) (fun hg => ?_) <;> conv => whnf) | (refine gs_n (fun hg => ?_) (fun hg => ?_) <;> conv => whnf) | (refine gs_nb (fun hg => ?_) (fun hg => ?_) <;> conv => whnf) | (refine gs_b (fun hg => ?_) (fun hg => ?_) <;> conv => whnf) | refine fin1 rfl rfl ?_))
      exact ⟨rfl, bup hBw hBv⟩
end Go.Proofs.Ytmlepfngcpekiaa
