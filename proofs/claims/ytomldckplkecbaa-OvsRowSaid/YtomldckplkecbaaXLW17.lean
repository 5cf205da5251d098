/- The walk of OvsRow. -/
import Derived.Test.YtomldckplkecbaaXOR17
import Derived.Test.YtomldckplkecbaaXLE17
namespace Go.Proofs.Ytomldckplkecbaa
open Go.RowKit
set_option linter.unusedVariables false
set_option linter.unusedSimpArgs false
set_option maxRecDepth 100000
theorem GRow.ownN {α : Type} [Inhabited α] {sz : Nat} {d : Dec α} {e : TypeId} {base : Nat} {w : World} {v : Value} {xs : List α} {bs : List Nat} (h : GRow sz d e base w v xs bs) {m : Nat} (hm : xs.length = m) : ∃ flat, w.ownsRow base e sz v m flat ∧ ∀ w', (∀ b ∈ bs, w'.heap[b]? = w.heap[b]?) → Elems sz d w' flat xs := by
  subst hm
  exact h.own
set_option maxHeartbeats 16000000 in
theorem lawOvsRow (n : Int) (fork : Bool) (w : World) (hn : 0 ≤ n ∧ n ≤ 255) :
    Calls Try.prog 11 #[.int .u8 n, .bool fork] w fun e w' => e = .returned (.bool true) ∧ Below w.heap.size w w' := by
  refine enterR (args := [.int .u8 n, .bool fork]) tabOk Try.func11 rfl Try.ntmps11 rfl ?_; conv => whnf
  refine wl_C fn14 (awake17 w) rfl rfl rfl rfl rfl rfl rfl ?_
  rintro _ w1 ⟨rfl, hB1⟩
  refine ⟨_, rfl, run_l tabOk ?_⟩
  conv => whnf
  (repeat' (first | (refine wl_rem rfl rfl rfl rfl rfl rfl (by omega) (by omega) (fun r hr hr0 hr1 hr2 => ?_); obtain ⟨m, rfl⟩ := Int.eq_ofNat_of_zero_le hr0; refine run_l tabOk ?_; (conv => whnf)) | (refine wl_add rfl rfl rfl rfl rfl rfl (by omega) (by omega) (run_l tabOk ?_); conv => whnf) | (refine wl_sub rfl rfl rfl rfl rfl rfl (by omega) (by omega) (run_l tabOk ?_); conv => whnf) | (refine wl_cvA tabOk rfl rfl rfl (by simp only [inK]; omega) rfl rfl rfl (run_l tabOk ?_); conv => whnf) | (refine wl_cvB tabOk rfl rfl rfl rfl rfl rfl (run_l tabOk ?_); conv => whnf) | (refine wl_rem rfl rfl rfl rfl rfl rfl (by omega) (by omega) (fun r hr hr0 hr1 hr2 => run_l tabOk ?_); conv => whnf) | (refine wl_quo rfl rfl rfl rfl rfl rfl (by omega) (by omega) (by simp only [inK]; omega) (run_l tabOk ?_); conv => whnf) | (refine wl_mul rfl rfl rfl rfl rfl rfl (by omega) (by omega) (run_l tabOk ?_); conv => whnf) | (refine gs_dt (by first | assumption | omega) ?_; conv => whnf) | (refine gs_df (by first | assumption | omega) ?_; conv => whnf) | (refine gs_t (by assumption) ?_; conv => whnf) | (refine gs_f (by assumption) ?_; conv => whnf) | (refine gs_d (fun hg => ?_) (fun hg => ?_) <;> conv => whnf) | (refine gs_n (fun hg => ?_) (fun hg => ?_) <;> conv => whnf) | (refine gs_nb (fun hg => ?_) (fun hg => ?_) <;> conv => whnf) | (refine gs_b (fun hg => ?_) (fun hg => ?_) <;> conv => whnf) | refine fin1 rfl rfl ?_))
  obtain ⟨k, hk⟩ : ∃ k, k = m + 2 := ⟨_, rfl⟩
  have ek : (2 : Int) + (m : Int) = (k : Int) := by omega
  have ek3 : (k : Int) + 3 = ((k + 3 : Nat) : Int) := by omega
  rw [ek, ek3]
  have hk81 : k ≤ 81 := by omega
  have hk2' : 2 ≤ k := by omega
  clear ek hk hr hr0 hr1 hr2
  refine wl_bs tabOk 54 3 rfl rfl rfl rfl rfl rfl rfl rfl rfl rfl ?_
  intro g1 w2 hn2
  refine run_l tabOk ?_
  conv => whnf
  refine wl_bs tabOk 52 4 rfl rfl rfl rfl rfl rfl rfl rfl rfl rfl ?_
  intro g2 w3 hn3
  refine run_l tabOk ?_
  conv => whnf
  refine wl_alloc tabOk rfl rfl rfl rfl rfl rfl ?_
  intro g3 w4 hn4
  refine run_l tabOk ?_
  conv => whnf
  refine wl_Sa tabOk hn4.blk rfl rfl rfl rfl rfl (by simp [Value.oneCell']) rfl rfl ?_
  intro w5 hp5
  refine run_l tabOk ?_
  conv => whnf
  (repeat' (first | (refine wl_add rfl rfl rfl rfl rfl rfl (by omega) (by omega) (run_l tabOk ?_); conv => whnf) | (refine wl_sub rfl rfl rfl rfl rfl rfl (by omega) (by omega) (run_l tabOk ?_); conv => whnf) | (refine wl_cvA tabOk rfl rfl rfl (by simp only [inK]; omega) rfl rfl rfl (run_l tabOk ?_); conv => whnf) | (refine wl_cvB tabOk rfl rfl rfl rfl rfl rfl (run_l tabOk ?_); conv => whnf) | (refine wl_rem rfl rfl rfl rfl rfl rfl (by omega) (by omega) (fun r hr hr0 hr1 hr2 => run_l tabOk ?_); conv => whnf) | (refine wl_quo rfl rfl rfl rfl rfl rfl (by omega) (by omega) (by simp only [inK]; omega) (run_l tabOk ?_); conv => whnf) | (refine wl_mul rfl rfl rfl rfl rfl rfl (by omega) (by omega) (run_l tabOk ?_); conv => whnf) | (refine gs_dt (by first | assumption | omega) ?_; conv => whnf) | (refine gs_df (by first | assumption | omega) ?_; conv => whnf) | (refine gs_t (by assumption) ?_; conv => whnf) | (refine gs_f (by assumption) ?_; conv => whnf) | (refine gs_d (fun hg => ?_) (fun hg => ?_) <;> conv => whnf) | (refine gs_n (fun hg => ?_) (fun hg => ?_) <;> conv => whnf) | (refine gs_nb (fun hg => ?_) (fun hg => ?_) <;> conv => whnf) | (refine gs_b (fun hg => ?_) (fun hg => ?_) <;> conv => whnf) | refine fin1 rfl rfl ?_))
  have q2 := hn2.at_
  have q3 := hn3.at_
  have q4 := hn4.at_
  have q2s := hn2.size
  have q3s := hn3.size
  have q4s := hn4.size
  have q1s := hB1.size
  have hb1 : w5.heap[g1]? = some (.cells #[.bool false, .int .i64 ((k : Int) + 1), .slice none 0 0, .bool false, .int .i64 ((k : Int) + 2), .slice none 0 0] 54 (0, 0)) := hp5.old (hn4.old (hn3.old hn2.blk)) (by omega)
  have hb2 := hp5.old (hn4.old hn3.blk) (by omega)
  have hb3 : w5.heap[g3]? = some (.cells #[.int .i64 ((k + 3 : Nat) : Int), .slice (some ⟨g1, 0, none⟩) 2 2, .slice (some ⟨g2, 0, none⟩) (1 + 1) 2] 41 (0, 0)) := hp5.blk
  have hB5 : Below w.heap.size w w5 := hp5.below (hn4.up (hn3.up (hn2.up hB1))) (by omega) (by omega)
  have hg3w : w.heap.size ≤ g3 := by omega
  have hg13 : g1 ≠ g3 := by omega
  have hr5 : GRow 4 dCon 52 w.heap.size w5 (.slice (some ⟨g2, 0, none⟩) (1 + 1) 2) (rowCons k (1 - 1)) [] := by
    refine ⟨⟨_, ⟨rfl, .inr ⟨g2, 2, _, rfl, by omega, hb2, by rw [rowCons_len]; omega, by decide, rfl, rfl⟩⟩, fun w' _ => ?_⟩, by simp, by simp⟩
    exact (Elems.one (d := dCon) rfl (dCon_nil _ 1 0 0 (by decide) (by decide) (by decide))).push (cs := [.int .u8 1, .int .i64 (k : Int), .int .i64 1, .slice none 0 0]) rfl (dCon_nil _ 1 (k : Int) 1 (by decide) (by omega) (by decide))
  have hne5 : ∀ b, (Value.slice (some ⟨g2, 0, none⟩) (1 + 1) 2).ownBlock = some b → b ≠ g1 ∧ b ≠ g3 := fun b hb => by
    have : g2 = b := by simpa [Value.ownBlock] using hb
    omega
  clear hn2 hn3 hn4 hp5 hb2 q2 q3 q4 q2s q3s q4s q1s
  refine wc_ends 0 (fun _ _ => False) (X := Option Addr × Nat) (fun x => [(1, .bool fork), (5, .int .i64 (k : Int)), (6, .pointer (some ⟨g3, 0, none⟩))])
    (fun x wr => Below w.heap.size w wr ∧ wr.heap[g1]? = some (.cells #[.bool false, .int .i64 ((k : Int) + 1), .slice none 0 0, .bool false, .int .i64 ((k : Int) + 2), .slice none 0 0] 54 (0, 0)) ∧ wr.heap[g3]? = some (.cells #[.int .i64 ((k + 3 : Nat) : Int), .slice (some ⟨g1, 0, none⟩) 2 2, .slice x.1 (k + 1) x.2] 41 (0, 0)) ∧ GRow 4 dCon 52 w.heap.size wr (.slice x.1 (k + 1) x.2) (rowCons k (k - 1)) [] ∧ ∀ b, (Value.slice x.1 (k + 1) x.2).ownBlock = some b → b ≠ g1 ∧ b ≠ g3) ?_ (fun _ _ h => h.elim) ?_
  · refine lp_loop tabOk (X := Nat × Option Addr × Nat) (fun x => [(1, .bool fork), (5, .int .i64 (k : Int)), (6, .pointer (some ⟨g3, 0, none⟩)), (7, .int .i64 (x.1 : Int))])
      (fun x wr => (1 ≤ x.1 ∧ x.1 ≤ k) ∧ Below w.heap.size w wr ∧ wr.heap[g1]? = some (.cells #[.bool false, .int .i64 ((k : Int) + 1), .slice none 0 0, .bool false, .int .i64 ((k : Int) + 2), .slice none 0 0] 54 (0, 0)) ∧ wr.heap[g3]? = some (.cells #[.int .i64 ((k + 3 : Nat) : Int), .slice (some ⟨g1, 0, none⟩) 2 2, .slice x.2.1 (x.1 + 1) x.2.2] 41 (0, 0)) ∧ GRow 4 dCon 52 w.heap.size wr (.slice x.2.1 (x.1 + 1) x.2.2) (rowCons k (x.1 - 1)) [] ∧ ∀ b, (Value.slice x.2.1 (x.1 + 1) x.2.2).ownBlock = some b → b ≠ g1 ∧ b ≠ g3) (fun x => k - x.1) (1, some ⟨g2, 0, none⟩, 2) ⟨rfl, rfl, rfl, rfl, trivial⟩ ⟨⟨by omega, by simp only; omega⟩, hB5, hb1, hb3, hr5, hne5⟩ ?_
    clear hb1 hb3 hr5 hne5
    rintro ⟨v, D, dc⟩ G wr ⟨⟨hv1, hvk⟩, hBr, hb1, hb3, hrow, hne⟩
    simp only at hv1 hvk hBr hb1 hb3 hrow hne
    have hlr : (rowCons k (v - 1)).length = v + 1 := by rw [rowCons_len]; omega
    by_cases hlt : v < k
    · conv => whnf
      (repeat' (first | (refine wl_Lg tabOk hb3 rfl rfl rfl rfl rfl rfl rfl (run_l tabOk ?_); conv => whnf) | (refine wl_add rfl rfl rfl rfl rfl rfl (by omega) (by omega) (run_l tabOk ?_); conv => whnf) | (refine wl_sub rfl rfl rfl rfl rfl rfl (by omega) (by omega) (run_l tabOk ?_); conv => whnf) | (refine wl_cvA tabOk rfl rfl rfl (by simp only [inK]; omega) rfl rfl rfl (run_l tabOk ?_); conv => whnf) | (refine wl_cvB tabOk rfl rfl rfl rfl rfl rfl (run_l tabOk ?_); conv => whnf) | (refine wl_rem rfl rfl rfl rfl rfl rfl (by omega) (by omega) (fun r hr hr0 hr1 hr2 => run_l tabOk ?_); conv => whnf) | (refine wl_quo rfl rfl rfl rfl rfl rfl (by omega) (by omega) (by simp only [inK]; omega) (run_l tabOk ?_); conv => whnf) | (refine wl_mul rfl rfl rfl rfl rfl rfl (by omega) (by omega) (run_l tabOk ?_); conv => whnf) | (refine gs_dt (by first | assumption | omega) ?_; conv => whnf) | (refine gs_df (by first | assumption | omega) ?_; conv => whnf) | (refine gs_t (by assumption) ?_; conv => whnf) | (refine gs_f (by assumption) ?_; conv => whnf) | (refine gs_d (fun hg => ?_) (fun hg => ?_) <;> conv => whnf) | (refine gs_n (fun hg => ?_) (fun hg => ?_) <;> conv => whnf) | (refine gs_nb (fun hg => ?_) (fun hg => ?_) <;> conv => whnf) | (refine gs_b (fun hg => ?_) (fun hg => ?_) <;> conv => whnf) | refine fin1 rfl rfl ?_))
      refine wl_bs tabOk 52 4 rfl rfl rfl rfl rfl rfl rfl rfl rfl rfl ?_
      intro gn w6 hn6
      refine run_l tabOk ?_
      conv => whnf
      have hrow6 := hrow.below hn6.below
      refine wl_ap tabOk 52 4 48 (hrow6.ownN hlr).choose_spec.1 hn6.blk rfl rfl rfl rfl rfl rfl rfl rfl rfl rfl rfl (by simp) (by simp [Value.oneCell']) (by omega) (by omega) (by have := hBr.size; have := hn6.size; omega) ?_
      intro E ec w7 hown7 hg7 hob7
      refine run_l tabOk ?_
      conv => whnf
      have hpu := hrow6.push (bs' := []) (x := ⟨2, (v : Int), ((v : Int) - 1), []⟩) (fun w' hw' => (hrow6.ownN hlr).choose_spec.2 w' (by simp)) (by rw [hlr]; exact hown7) hg7 hob7 rfl (fun w' _ => dCon_nil _ 2 (v : Int) ((v : Int) - 1) (by decide) (by omega) (by omega)) (by simp) (by simp)
      have hb37 : w7.heap[g3]? = _ := (hg7.block g3 (blk_lt (blk_up hn6.below hb3)) (fun e => (hne g3 e.symm).2 rfl)).trans (blk_up hn6.below hb3)
      have hb17 : w7.heap[g1]? = _ := (hg7.block g1 (blk_lt (blk_up hn6.below hb1)) (fun e => (hne g1 e.symm).1 rfl)).trans (blk_up hn6.below hb1)
      refine wl_S (off := 2) (v := .slice E ((v + 1) + 1) ec) tabOk hb37 rfl rfl rfl rfl rfl rfl (by simp) rfl rfl ?_
      intro w8 hp8
      refine run_l tabOk ?_
      conv => whnf
      have hob8 : ∀ b, (Value.slice E ((v + 1) + 1) ec).ownBlock = some b → b ≠ g1 ∧ b ≠ g3 := fun b hb => by
        rcases hob7 with q | q
        · exact hne b (q.symm.trans hb)
        · rw [q] at hb
          injection hb with hb
          have h1 := blk_lt (blk_up hn6.below hb1)
          have h3 := blk_lt (blk_up hn6.below hb3)
          omega
      have hB7 : Below w.heap.size w w7 := (bup hBr hn6.below).grown hg7 (bup hBr hn6.below).size (fun b hb => (hrow6.olt b hb).1)
      have hB8 : Below w.heap.size w w8 := hp8.below hB7 hg3w hB7.size
      have hrow8 := hpu.other hp8.grown (by simp) (fun b hb => (hob8 b hb).2)
      have hb38 := hp8.blk
      have hb18 := hp8.old hb17 hg13
      (repeat' (first | (refine wl_add rfl rfl rfl rfl rfl rfl (by omega) (by omega) (run_l tabOk ?_); conv => whnf) | (refine wl_sub rfl rfl rfl rfl rfl rfl (by omega) (by omega) (run_l tabOk ?_); conv => whnf) | (refine wl_cvA tabOk rfl rfl rfl (by simp only [inK]; omega) rfl rfl rfl (run_l tabOk ?_); conv => whnf) | (refine wl_cvB tabOk rfl rfl rfl rfl rfl rfl (run_l tabOk ?_); conv => whnf) | (refine wl_rem rfl rfl rfl rfl rfl rfl (by omega) (by omega) (fun r hr hr0 hr1 hr2 => run_l tabOk ?_); conv => whnf) | (refine wl_quo rfl rfl rfl rfl rfl rfl (by omega) (by omega) (by simp only [inK]; omega) (run_l tabOk ?_); conv => whnf) | (refine wl_mul rfl rfl rfl rfl rfl rfl (by omega) (by omega) (run_l tabOk ?_); conv => whnf) | (refine gs_dt (by first | assumption | omega) ?_; conv => whnf) | (refine gs_df (by first | assumption | omega) ?_; conv => whnf) | (refine gs_t (by assumption) ?_; conv => whnf) | (refine gs_f (by assumption) ?_; conv => whnf) | (refine gs_d (fun hg => ?_) (fun hg => ?_) <;> conv => whnf) | (refine gs_n (fun hg => ?_) (fun hg => ?_) <;> conv => whnf) | (refine gs_nb (fun hg => ?_) (fun hg => ?_) <;> conv => whnf) | (refine gs_b (fun hg => ?_) (fun hg => ?_) <;> conv => whnf) | refine fin1 rfl rfl ?_))
      have ecs : rowCons k (v - 1) ++ [⟨2, (v : Int), (v : Int) - 1, []⟩] = rowCons k v := by
        obtain ⟨u, rfl⟩ : ∃ u, v = u + 1 := ⟨v - 1, by omega⟩
        rw [rowCons_next]
        simp
      rw [ecs] at hrow8
      exact ⟨(v + 1, E, ec), ⟨rfl, rfl, rfl, rfl, trivial⟩, ⟨⟨by simp only; omega, by simp only; omega⟩, hB8, hb18, hb38, hrow8, hob8⟩, by simp only; omega⟩
    · have hvk2 : v = k := by omega
      subst hvk2
      conv => whnf
      (repeat' (first | (refine wl_add rfl rfl rfl rfl rfl rfl (by omega) (by omega) (run_l tabOk ?_); conv => whnf) | (refine wl_sub rfl rfl rfl rfl rfl rfl (by omega) (by omega) (run_l tabOk ?_); conv => whnf) | (refine wl_cvA tabOk rfl rfl rfl (by simp only [inK]; omega) rfl rfl rfl (run_l tabOk ?_); conv => whnf) | (refine wl_cvB tabOk rfl rfl rfl rfl rfl rfl (run_l tabOk ?_); conv => whnf) | (refine wl_rem rfl rfl rfl rfl rfl rfl (by omega) (by omega) (fun r hr hr0 hr1 hr2 => run_l tabOk ?_); conv => whnf) | (refine wl_quo rfl rfl rfl rfl rfl rfl (by omega) (by omega) (by simp only [inK]; omega) (run_l tabOk ?_); conv => whnf) | (refine wl_mul rfl rfl rfl rfl rfl rfl (by omega) (by omega) (run_l tabOk ?_); conv => whnf) | (refine gs_dt (by first | assumption | omega) ?_; conv => whnf) | (refine gs_df (by first | assumption | omega) ?_; conv => whnf) | (refine gs_t (by assumption) ?_; conv => whnf) | (refine gs_f (by assumption) ?_; conv => whnf) | (refine gs_d (fun hg => ?_) (fun hg => ?_) <;> conv => whnf) | (refine gs_n (fun hg => ?_) (fun hg => ?_) <;> conv => whnf) | (refine gs_nb (fun hg => ?_) (fun hg => ?_) <;> conv => whnf) | (refine gs_b (fun hg => ?_) (fun hg => ?_) <;> conv => whnf) | refine fin1 rfl rfl ?_))
      exact ⟨rfl, (D, dc), ⟨rfl, rfl, rfl, trivial⟩, hBr, hb1, hb3, hrow, hne⟩
  · clear hb1 hb3 hr5 hne5 hB5
    rintro ⟨D, dc⟩ G wr ⟨hBr, hb1, hb3, hrow, hne⟩
    simp only at hBr hb1 hb3 hrow hne
    have hlr : (rowCons k (k - 1)).length = k + 1 := by rw [rowCons_len]; omega
    have hcl : ∀ w' : World, w'.heap[g1]? = some (.cells #[.bool false, .int .i64 ((k : Int) + 1), .slice none 0 0, .bool false, .int .i64 ((k : Int) + 2), .slice none 0 0] 54 (0, 0)) → RCells w' (some ⟨g1, 0, none⟩) (rowCells k) := fun w' hb => row_of_blk hb ((Elems.one (d := dCell) rfl (dCell_nil w' false ((k : Int) + 1) (by show (-9223372036854775808 : Int) ≤ _; omega) (by show _ ≤ (9223372036854775807 : Int); omega))).push (cs := [.bool false, .int .i64 ((k : Int) + 2), .slice none 0 0]) rfl (dCell_nil w' false ((k : Int) + 2) (by show (-9223372036854775808 : Int) ≤ _; omega) (by show _ ≤ (9223372036854775807 : Int); omega))) (by simp [rowCells])
    cases fork with
    | false =>
      have hzr : RCons wr D (rowSys k false).cons := hrow.rowAt.2.2
      have hzl : (rowSys k false).cons.length = k + 1 := hlr
      have hxs := hcl wr hb1
      obtain ⟨wq, hwq⟩ : ∃ wq, wq = wr := ⟨_, rfl⟩
      rw [← hwq] at hBr hb3 hzr hxs
      have hbq := hb3
      have hBq := hBr
      rw [← hwq]
      have hright := row_right hk2' hk81 false
      have hG := gok (n := k + 3) (xs := rowCells k) (ys := (rowSys k false).cons) hright
      have hgf := gfold_rows hk2' false
      have hg1 : (gfold ⟨((k + 3 : Nat) : Int), rowCells k, (rowSys k false).cons⟩).1 = rowInto k false := congrArg Prod.fst hgf
      have hg2 : (gfold ⟨((k + 3 : Nat) : Int), rowCells k, (rowSys k false).cons⟩).2 = gF (k + 3) (rowB k) := congrArg Prod.snd hgf
      have hlb : looseB ⟨((k + 3 : Nat) : Int), rowCells k, (rowSys k false).cons⟩ = looseB (rowSys k false) := rfl
      rw [hg1, hg2, hlb] at hG
      have hni := hG.ni
      have hnb := hG.nb
      have hnl := hG.nl
      have hgo := graphOfR (k + 3) (rowCells k) (rowSys k false).cons (some ⟨g1, 0, none⟩) D 2 dc wq hxs hzr hright
      rw [hg1, hg2, hlb] at hgo
      rw [hzl] at hgo
      conv => whnf
      (repeat' (first | (refine wl_Lag tabOk hbq rfl rfl rfl rfl rfl rfl (run_l tabOk ?_); conv => whnf) | (refine wl_add rfl rfl rfl rfl rfl rfl (by omega) (by omega) (run_l tabOk ?_); conv => whnf) | (refine wl_sub rfl rfl rfl rfl rfl rfl (by omega) (by omega) (run_l tabOk ?_); conv => whnf) | (refine wl_cvA tabOk rfl rfl rfl (by simp only [inK]; omega) rfl rfl rfl (run_l tabOk ?_); conv => whnf) | (refine wl_cvB tabOk rfl rfl rfl rfl rfl rfl (run_l tabOk ?_); conv => whnf) | (refine wl_rem rfl rfl rfl rfl rfl rfl (by omega) (by omega) (fun r hr hr0 hr1 hr2 => run_l tabOk ?_); conv => whnf) | (refine wl_quo rfl rfl rfl rfl rfl rfl (by omega) (by omega) (by simp only [inK]; omega) (run_l tabOk ?_); conv => whnf) | (refine wl_mul rfl rfl rfl rfl rfl rfl (by omega) (by omega) (run_l tabOk ?_); conv => whnf) | (refine gs_dt (by first | assumption | omega) ?_; conv => whnf) | (refine gs_df (by first | assumption | omega) ?_; conv => whnf) | (refine gs_t (by assumption) ?_; conv => whnf) | (refine gs_f (by assumption) ?_; conv => whnf) | (refine gs_d (fun hg => ?_) (fun hg => ?_) <;> conv => whnf) | (refine gs_n (fun hg => ?_) (fun hg => ?_) <;> conv => whnf) | (refine gs_nb (fun hg => ?_) (fun hg => ?_) <;> conv => whnf) | (refine gs_b (fun hg => ?_) (fun hg => ?_) <;> conv => whnf) | refine fin1 rfl rfl ?_))
      refine wl_C fn16 hgo rfl rfl rfl rfl rfl rfl rfl ?_
      rintro _ w8 ⟨A', B', C', rfl, k1, k2, k3, hB8⟩
      refine ⟨_, rfl, run_l tabOk ?_⟩
      have hlab := oLabels (k + 3) (rowInto k false) (gF (k + 3) (rowB k)) (looseB (rowSys k false) ++ List.replicate (k + 3) true) A' B' C' (2 * (k + 3)) (k + 3) (2 * (k + 3)) w8 hG k1 k2 k3
      rw [hni, hnb, hnl] at hlab
      conv => whnf
      refine wl_C fn17 hlab rfl rfl rfl rfl rfl rfl rfl ?_
      rintro _ w9 ⟨kn, of, go, hK, rfl, hR, hB9⟩
      obtain ⟨r1, r2, r3, r4⟩ := rl_all hk2' hk81 hG hK
      obtain ⟨l, hl⟩ : ∃ l : Nat → Int, l = rl k false kn of := ⟨_, rfl⟩
      rw [← hl] at r1 r2 r3 r4
      have rdl : ∀ j, j < k + 3 → w9.cell? ((⟨go, 0, none⟩ : Addr).add (j * 1)) = some (.int .i64 (l j)) := fun j hj => by
        obtain ⟨z, ad3, ⟨hz3⟩, e3, hc4, _, _⟩ := intsE hR j (by simpa using hj)
        rw [getElem!_pos _ j (by simpa using hj)] at hz3
        simp at hz3
        subst hz3
        injection e3 with e3
        subst e3
        rw [hl]
        exact hc4
      clear hl hlab hgo hG k1 k2 k3
      have hBw := bup hBq (bup hB8 hB9)
      refine ⟨_, rfl, run_l tabOk ?_⟩
      conv => whnf
      (repeat' (first | (refine wl_add rfl rfl rfl rfl rfl rfl (by omega) (by omega) (run_l tabOk ?_); conv => whnf) | (refine wl_sub rfl rfl rfl rfl rfl rfl (by omega) (by omega) (run_l tabOk ?_); conv => whnf) | (refine wl_cvA tabOk rfl rfl rfl (by simp only [inK]; omega) rfl rfl rfl (run_l tabOk ?_); conv => whnf) | (refine wl_cvB tabOk rfl rfl rfl rfl rfl rfl (run_l tabOk ?_); conv => whnf) | (refine wl_rem rfl rfl rfl rfl rfl rfl (by omega) (by omega) (fun r hr hr0 hr1 hr2 => run_l tabOk ?_); conv => whnf) | (refine wl_quo rfl rfl rfl rfl rfl rfl (by omega) (by omega) (by simp only [inK]; omega) (run_l tabOk ?_); conv => whnf) | (refine wl_mul rfl rfl rfl rfl rfl rfl (by omega) (by omega) (run_l tabOk ?_); conv => whnf) | (refine gs_dt (by first | assumption | omega) ?_; conv => whnf) | (refine gs_df (by first | assumption | omega) ?_; conv => whnf) | (refine gs_t (by assumption) ?_; conv => whnf) | (refine gs_f (by assumption) ?_; conv => whnf) | (refine gs_d (fun hg => ?_) (fun hg => ?_) <;> conv => whnf) | (refine gs_n (fun hg => ?_) (fun hg => ?_) <;> conv => whnf) | (refine gs_nb (fun hg => ?_) (fun hg => ?_) <;> conv => whnf) | (refine gs_b (fun hg => ?_) (fun hg => ?_) <;> conv => whnf) | refine fin1 rfl rfl ?_))
      refine wc_ends 2 (fun _ _ => False) (X := Unit) (fun _ => [(1, .bool false), (5, .int .i64 (k : Int)), (8, .slice (some ⟨go, 0, none⟩) (k + 3) (k + 3))]) (fun _ wi => Below w9.heap.size w9 wi) ?_ (fun _ _ h => h.elim) ?_
      · refine lp_loop tabOk (X := Nat) (fun v => [(1, .bool false), (5, .int .i64 (k : Int)), (8, .slice (some ⟨go, 0, none⟩) (k + 3) (k + 3)), (9, .int .i64 (v : Int))]) (fun v wi => 1 ≤ v ∧ Below w9.heap.size w9 wi) (fun v => k - v) 1 ⟨rfl, rfl, rfl, rfl, trivial⟩ ⟨by omega, Below.refl _ _⟩ ?_
        rintro v G2 wi ⟨hv, hBi⟩
        by_cases hvk : v < k - 1
        · have c1 := cell_up hBi (rdl v (by omega))
          have c0 : wi.cell? ((⟨go, 0, none⟩ : Addr).add ((0 : Int).toNat * 1)) = _ := cell_up hBi (rdl 0 (by omega))
          have hv0 := r1 v hvk
          conv => whnf
          (repeat' (first | (refine wl_add rfl rfl rfl rfl rfl rfl (by omega) (by omega) (run_l tabOk ?_); conv => whnf) | (refine wl_sub rfl rfl rfl rfl rfl rfl (by omega) (by omega) (run_l tabOk ?_); conv => whnf) | (refine wl_cvA tabOk rfl rfl rfl (by simp only [inK]; omega) rfl rfl rfl (run_l tabOk ?_); conv => whnf) | (refine wl_cvB tabOk rfl rfl rfl rfl rfl rfl (run_l tabOk ?_); conv => whnf) | (refine wl_rem rfl rfl rfl rfl rfl rfl (by omega) (by omega) (fun r hr hr0 hr1 hr2 => run_l tabOk ?_); conv => whnf) | (refine wl_quo rfl rfl rfl rfl rfl rfl (by omega) (by omega) (by simp only [inK]; omega) (run_l tabOk ?_); conv => whnf) | (refine wl_mul rfl rfl rfl rfl rfl rfl (by omega) (by omega) (run_l tabOk ?_); conv => whnf) | (refine gs_dt (by first | assumption | omega) ?_; conv => whnf) | (refine gs_df (by first | assumption | omega) ?_; conv => whnf) | (refine gs_t (by assumption) ?_; conv => whnf) | (refine gs_f (by assumption) ?_; conv => whnf) | (refine gs_d (fun hg => ?_) (fun hg => ?_) <;> conv => whnf) | (refine gs_n (fun hg => ?_) (fun hg => ?_) <;> conv => whnf) | (refine gs_nb (fun hg => ?_) (fun hg => ?_) <;> conv => whnf) | (refine gs_b (fun hg => ?_) (fun hg => ?_) <;> conv => whnf) | refine fin1 rfl rfl ?_))
          refine wc_qr tabOk mixed (by kernel_rfl) ?_; conv => whnf
          (repeat' (first | (refine wq_L tabOk rfl rfl rfl rfl rfl rfl c1 (run_q tabOk ?_); conv => whnf) | (refine wq_L tabOk rfl rfl rfl rfl rfl rfl c0 (run_q tabOk ?_); conv => whnf) | (refine wq_Xn tabOk 3 1 rfl rfl rfl rfl rfl rfl rfl (by omega) (run_q tabOk ?_); conv => whnf) | (refine wq_X tabOk 3 1 rfl rfl rfl rfl rfl rfl rfl (by omega) (by omega) (run_q tabOk ?_); conv => whnf) | (refine wq_add rfl rfl rfl rfl rfl rfl (by omega) (by omega) (run_q tabOk ?_); conv => whnf) | (refine wq_sub rfl rfl rfl rfl rfl rfl (by omega) (by omega) (run_q tabOk ?_); conv => whnf) | (refine wq_cvA tabOk rfl rfl rfl (by simp only [inK]; omega) rfl rfl rfl (run_q tabOk ?_); conv => whnf) | (refine wq_cvB tabOk rfl rfl rfl rfl rfl rfl (run_q tabOk ?_); conv => whnf) | (refine wq_rem rfl rfl rfl rfl rfl rfl (by omega) (by omega) (fun r hr hr0 hr1 hr2 => run_q tabOk ?_); conv => whnf) | (refine wq_quo rfl rfl rfl rfl rfl rfl (by omega) (by omega) (by simp only [inK]; omega) (run_q tabOk ?_); conv => whnf) | (refine wq_mul rfl rfl rfl rfl rfl rfl (by omega) (by omega) (run_q tabOk ?_); conv => whnf) | (refine gs_dt (by first | assumption | omega) ?_; conv => whnf) | (refine gs_df (by first | assumption | omega) ?_; conv => whnf) | (refine gs_t (by assumption) ?_; conv => whnf) | (refine gs_f (by assumption) ?_; conv => whnf) | (refine gs_d (fun hg => ?_) (fun hg => ?_) <;> conv => whnf) | (refine gs_n (fun hg => ?_) (fun hg => ?_) <;> conv => whnf) | (refine gs_nb (fun hg => ?_) (fun hg => ?_) <;> conv => whnf) | (refine gs_b (fun hg => ?_) (fun hg => ?_) <;> conv => whnf)))
          intro w10 hB10
          conv => whnf
          (repeat' (first | (refine wl_add rfl rfl rfl rfl rfl rfl (by omega) (by omega) (run_l tabOk ?_); conv => whnf) | (refine wl_sub rfl rfl rfl rfl rfl rfl (by omega) (by omega) (run_l tabOk ?_); conv => whnf) | (refine wl_cvA tabOk rfl rfl rfl (by simp only [inK]; omega) rfl rfl rfl (run_l tabOk ?_); conv => whnf) | (refine wl_cvB tabOk rfl rfl rfl rfl rfl rfl (run_l tabOk ?_); conv => whnf) | (refine wl_rem rfl rfl rfl rfl rfl rfl (by omega) (by omega) (fun r hr hr0 hr1 hr2 => run_l tabOk ?_); conv => whnf) | (refine wl_quo rfl rfl rfl rfl rfl rfl (by omega) (by omega) (by simp only [inK]; omega) (run_l tabOk ?_); conv => whnf) | (refine wl_mul rfl rfl rfl rfl rfl rfl (by omega) (by omega) (run_l tabOk ?_); conv => whnf) | (refine gs_dt (by first | assumption | omega) ?_; conv => whnf) | (refine gs_df (by first | assumption | omega) ?_; conv => whnf) | (refine gs_t (by assumption) ?_; conv => whnf) | (refine gs_f (by assumption) ?_; conv => whnf) | (refine gs_d (fun hg => ?_) (fun hg => ?_) <;> conv => whnf) | (refine gs_n (fun hg => ?_) (fun hg => ?_) <;> conv => whnf) | (refine gs_nb (fun hg => ?_) (fun hg => ?_) <;> conv => whnf) | (refine gs_b (fun hg => ?_) (fun hg => ?_) <;> conv => whnf) | refine fin1 rfl rfl ?_))
          exact ⟨v + 1, ⟨rfl, rfl, rfl, rfl, trivial⟩, ⟨by omega, bup hBi hB10⟩, by omega⟩
        · conv => whnf
          (repeat' (first | (refine wl_add rfl rfl rfl rfl rfl rfl (by omega) (by omega) (run_l tabOk ?_); conv => whnf) | (refine wl_sub rfl rfl rfl rfl rfl rfl (by omega) (by omega) (run_l tabOk ?_); conv => whnf) | (refine wl_cvA tabOk rfl rfl rfl (by simp only [inK]; omega) rfl rfl rfl (run_l tabOk ?_); conv => whnf) | (refine wl_cvB tabOk rfl rfl rfl rfl rfl rfl (run_l tabOk ?_); conv => whnf) | (refine wl_rem rfl rfl rfl rfl rfl rfl (by omega) (by omega) (fun r hr hr0 hr1 hr2 => run_l tabOk ?_); conv => whnf) | (refine wl_quo rfl rfl rfl rfl rfl rfl (by omega) (by omega) (by simp only [inK]; omega) (run_l tabOk ?_); conv => whnf) | (refine wl_mul rfl rfl rfl rfl rfl rfl (by omega) (by omega) (run_l tabOk ?_); conv => whnf) | (refine gs_dt (by first | assumption | omega) ?_; conv => whnf) | (refine gs_df (by first | assumption | omega) ?_; conv => whnf) | (refine gs_t (by assumption) ?_; conv => whnf) | (refine gs_f (by assumption) ?_; conv => whnf) | (refine gs_d (fun hg => ?_) (fun hg => ?_) <;> conv => whnf) | (refine gs_n (fun hg => ?_) (fun hg => ?_) <;> conv => whnf) | (refine gs_nb (fun hg => ?_) (fun hg => ?_) <;> conv => whnf) | (refine gs_b (fun hg => ?_) (fun hg => ?_) <;> conv => whnf) | refine fin1 rfl rfl ?_))
          exact ⟨rfl, (), ⟨rfl, rfl, rfl, trivial⟩, hBi⟩
      · rintro _ G2 wi hBi
        have ek1 : ((k : Int) - 1).toNat = k - 1 := by omega
        have c1 : wi.cell? ((⟨go, 0, none⟩ : Addr).add (((k : Int) - 1).toNat * 1)) = some (.int .i64 (l (k - 1))) := by rw [ek1]; exact cell_up hBi (rdl (k - 1) (by omega))
        have c0 : wi.cell? ((⟨go, 0, none⟩ : Addr).add ((0 : Int).toNat * 1)) = _ := cell_up hBi (rdl 0 (by omega))
        have ck := cell_up hBi (rdl k (by omega))
        generalize l (k - 1) = x1 at *
        generalize l 0 = x0 at *
        generalize l k = xk at *
        have hb1 : (decide (x1 = x0) == true) = true := by simp [r4]
        have hb2 : decide (¬ x1 = xk) = true := by simp [r3]
        have hb3 : (!decide (x1 = xk)) = true := by simp [r3]
        have hb4 : decide (x1 ≠ xk) = true := by simp [r3]
        conv => whnf
        refine wc_qr tabOk mixed (by kernel_rfl) ?_; conv => whnf
        (repeat' (first | (refine wq_L tabOk rfl rfl rfl rfl rfl rfl c1 (run_q tabOk ?_); conv => whnf) | (refine wq_L tabOk rfl rfl rfl rfl rfl rfl c0 (run_q tabOk ?_); conv => whnf) | (refine wq_L tabOk rfl rfl rfl rfl rfl rfl ck (run_q tabOk ?_); conv => whnf) | (refine wq_Xn tabOk 3 1 rfl rfl rfl rfl rfl rfl rfl (by omega) (run_q tabOk ?_); conv => whnf) | (refine wq_X tabOk 3 1 rfl rfl rfl rfl rfl rfl rfl (by omega) (by omega) (run_q tabOk ?_); conv => whnf) | (rw [hb1]; (conv => whnf)) | (rw [hb2]; (conv => whnf)) | (rw [hb3]; (conv => whnf)) | (rw [hb4]; (conv => whnf)) | (refine wq_add rfl rfl rfl rfl rfl rfl (by omega) (by omega) (run_q tabOk ?_); conv => whnf) | (refine wq_sub rfl rfl rfl rfl rfl rfl (by omega) (by omega) (run_q tabOk ?_); conv => whnf) | (refine wq_cvA tabOk rfl rfl rfl (by simp only [inK]; omega) rfl rfl rfl (run_q tabOk ?_); conv => whnf) | (refine wq_cvB tabOk rfl rfl rfl rfl rfl rfl (run_q tabOk ?_); conv => whnf) | (refine wq_rem rfl rfl rfl rfl rfl rfl (by omega) (by omega) (fun r hr hr0 hr1 hr2 => run_q tabOk ?_); conv => whnf) | (refine wq_quo rfl rfl rfl rfl rfl rfl (by omega) (by omega) (by simp only [inK]; omega) (run_q tabOk ?_); conv => whnf) | (refine wq_mul rfl rfl rfl rfl rfl rfl (by omega) (by omega) (run_q tabOk ?_); conv => whnf) | (refine gs_dt (by first | assumption | omega) ?_; conv => whnf) | (refine gs_df (by first | assumption | omega) ?_; conv => whnf) | (refine gs_t (by assumption) ?_; conv => whnf) | (refine gs_f (by assumption) ?_; conv => whnf) | (refine gs_d (fun hg => ?_) (fun hg => ?_) <;> conv => whnf) | (refine gs_n (fun hg => ?_) (fun hg => ?_) <;> conv => whnf) | (refine gs_nb (fun hg => ?_) (fun hg => ?_) <;> conv => whnf) | (refine gs_b (fun hg => ?_) (fun hg => ?_) <;> conv => whnf)))
        intro w10 hB10
        conv => whnf
        (repeat' (first | (refine wl_add rfl rfl rfl rfl rfl rfl (by omega) (by omega) (run_l tabOk ?_); conv => whnf) | (refine wl_sub rfl rfl rfl rfl rfl rfl (by omega) (by omega) (run_l tabOk ?_); conv => whnf) | (refine wl_cvA tabOk rfl rfl rfl (by simp only [inK]; omega) rfl rfl rfl (run_l tabOk ?_); conv => whnf) | (refine wl_cvB tabOk rfl rfl rfl rfl rfl rfl (run_l tabOk ?_); conv => whnf) | (refine wl_rem rfl rfl rfl rfl rfl rfl (by omega) (by omega) (fun r hr hr0 hr1 hr2 => run_l tabOk ?_); conv => whnf) | (refine wl_quo rfl rfl rfl rfl rfl rfl (by omega) (by omega) (by simp only [inK]; omega) (run_l tabOk ?_); conv => whnf) | (refine wl_mul rfl rfl rfl rfl rfl rfl (by omega) (by omega) (run_l tabOk ?_); conv => whnf) | (refine gs_dt (by first | assumption | omega) ?_; conv => whnf) | (refine gs_df (by first | assumption | omega) ?_; conv => whnf) | (refine gs_t (by assumption) ?_; conv => whnf) | (refine gs_f (by assumption) ?_; conv => whnf) | (refine gs_d (fun hg => ?_) (fun hg => ?_) <;> conv => whnf) | (refine gs_n (fun hg => ?_) (fun hg => ?_) <;> conv => whnf) | (refine gs_nb (fun hg => ?_) (fun hg => ?_) <;> conv => whnf) | (refine gs_b (fun hg => ?_) (fun hg => ?_) <;> conv => whnf) | refine fin1 rfl rfl ?_))
        exact ⟨by first | rfl | simp [r3] | (rw [hb3]) , bup hBw (bup hBi hB10)⟩
    | true =>
      conv => whnf
      (repeat' (first | (refine wl_Lg tabOk hb3 rfl rfl rfl rfl rfl rfl rfl (run_l tabOk ?_); conv => whnf) | (refine wl_add rfl rfl rfl rfl rfl rfl (by omega) (by omega) (run_l tabOk ?_); conv => whnf) | (refine wl_sub rfl rfl rfl rfl rfl rfl (by omega) (by omega) (run_l tabOk ?_); conv => whnf) | (refine wl_cvA tabOk rfl rfl rfl (by simp only [inK]; omega) rfl rfl rfl (run_l tabOk ?_); conv => whnf) | (refine wl_cvB tabOk rfl rfl rfl rfl rfl rfl (run_l tabOk ?_); conv => whnf) | (refine wl_rem rfl rfl rfl rfl rfl rfl (by omega) (by omega) (fun r hr hr0 hr1 hr2 => run_l tabOk ?_); conv => whnf) | (refine wl_quo rfl rfl rfl rfl rfl rfl (by omega) (by omega) (by simp only [inK]; omega) (run_l tabOk ?_); conv => whnf) | (refine wl_mul rfl rfl rfl rfl rfl rfl (by omega) (by omega) (run_l tabOk ?_); conv => whnf) | (refine gs_dt (by first | assumption | omega) ?_; conv => whnf) | (refine gs_df (by first | assumption | omega) ?_; conv => whnf) | (refine gs_t (by assumption) ?_; conv => whnf) | (refine gs_f (by assumption) ?_; conv => whnf) | (refine gs_d (fun hg => ?_) (fun hg => ?_) <;> conv => whnf) | (refine gs_n (fun hg => ?_) (fun hg => ?_) <;> conv => whnf) | (refine gs_nb (fun hg => ?_) (fun hg => ?_) <;> conv => whnf) | (refine gs_b (fun hg => ?_) (fun hg => ?_) <;> conv => whnf) | refine fin1 rfl rfl ?_))
      refine wl_bs tabOk 52 4 rfl rfl rfl rfl rfl rfl rfl rfl rfl rfl ?_
      intro gn w6 hn6
      refine run_l tabOk ?_
      conv => whnf
      have hrow6 := hrow.below hn6.below
      refine wl_ap tabOk 52 4 48 (hrow6.ownN hlr).choose_spec.1 hn6.blk rfl rfl rfl rfl rfl rfl rfl rfl rfl rfl rfl (by simp) (by simp [Value.oneCell']) (by omega) (by omega) (by have := hBr.size; have := hn6.size; omega) ?_
      intro E ec w7 hown7 hg7 hob7
      refine run_l tabOk ?_
      conv => whnf
      have hpu := hrow6.push (bs' := []) (x := ⟨2, ((k : Int) - 1), (k : Int), []⟩) (fun w' hw' => (hrow6.ownN hlr).choose_spec.2 w' (by simp)) (by rw [hlr]; exact hown7) hg7 hob7 rfl (fun w' _ => dCon_nil _ 2 ((k : Int) - 1) (k : Int) (by decide) (by omega) (by omega)) (by simp) (by simp)
      have hb37 : w7.heap[g3]? = _ := (hg7.block g3 (blk_lt (blk_up hn6.below hb3)) (fun e => (hne g3 e.symm).2 rfl)).trans (blk_up hn6.below hb3)
      have hb17 : w7.heap[g1]? = _ := (hg7.block g1 (blk_lt (blk_up hn6.below hb1)) (fun e => (hne g1 e.symm).1 rfl)).trans (blk_up hn6.below hb1)
      refine wl_S (off := 2) (v := .slice E ((k + 1) + 1) ec) tabOk hb37 rfl rfl rfl rfl rfl rfl (by simp) rfl rfl ?_
      intro w8 hp8
      refine run_l tabOk ?_
      conv => whnf
      have hob8 : ∀ b, (Value.slice E ((k + 1) + 1) ec).ownBlock = some b → b ≠ g1 ∧ b ≠ g3 := fun b hb => by
        rcases hob7 with q | q
        · exact hne b (q.symm.trans hb)
        · rw [q] at hb
          injection hb with hb
          have h1 := blk_lt (blk_up hn6.below hb1)
          have h3 := blk_lt (blk_up hn6.below hb3)
          omega
      have hB7 : Below w.heap.size w w7 := (bup hBr hn6.below).grown hg7 (bup hBr hn6.below).size (fun b hb => (hrow6.olt b hb).1)
      have hB8 : Below w.heap.size w w8 := hp8.below hB7 hg3w hB7.size
      have hrow8 := hpu.other hp8.grown (by simp) (fun b hb => (hob8 b hb).2)
      have hb38 := hp8.blk
      have hb18 := hp8.old hb17 hg13
      have hzr : RCons w8 E (rowSys k true).cons := hrow8.rowAt.2.2
      have hzl : (rowSys k true).cons.length = k + 1 + 1 := by
        show (rowCons k (k - 1) ++ [forkCon k]).length = _
        rw [List.length_append, hlr]
        rfl
      have hxs := hcl w8 hb18
      have hbq := hb38
      have hBq := hB8
      clear hb1 hb3 hrow hne hB7 hpu hown7 hg7 hob7 hrow6 hn6
      have hright := row_right hk2' hk81 true
      have hG := gok (n := k + 3) (xs := rowCells k) (ys := (rowSys k true).cons) hright
      have hgf := gfold_rows hk2' true
      have hg1 : (gfold ⟨((k + 3 : Nat) : Int), rowCells k, (rowSys k true).cons⟩).1 = rowInto k true := congrArg Prod.fst hgf
      have hg2 : (gfold ⟨((k + 3 : Nat) : Int), rowCells k, (rowSys k true).cons⟩).2 = gF (k + 3) (rowB k) := congrArg Prod.snd hgf
      have hlb : looseB ⟨((k + 3 : Nat) : Int), rowCells k, (rowSys k true).cons⟩ = looseB (rowSys k true) := rfl
      rw [hg1, hg2, hlb] at hG
      have hni := hG.ni
      have hnb := hG.nb
      have hnl := hG.nl
      have hgo := graphOfR (k + 3) (rowCells k) (rowSys k true).cons (some ⟨g1, 0, none⟩) E 2 ec w8 hxs hzr hright
      rw [hg1, hg2, hlb] at hgo
      rw [hzl] at hgo
      (repeat' (first | (refine wl_Lag tabOk hbq rfl rfl rfl rfl rfl rfl (run_l tabOk ?_); conv => whnf) | (refine wl_add rfl rfl rfl rfl rfl rfl (by omega) (by omega) (run_l tabOk ?_); conv => whnf) | (refine wl_sub rfl rfl rfl rfl rfl rfl (by omega) (by omega) (run_l tabOk ?_); conv => whnf) | (refine wl_cvA tabOk rfl rfl rfl (by simp only [inK]; omega) rfl rfl rfl (run_l tabOk ?_); conv => whnf) | (refine wl_cvB tabOk rfl rfl rfl rfl rfl rfl (run_l tabOk ?_); conv => whnf) | (refine wl_rem rfl rfl rfl rfl rfl rfl (by omega) (by omega) (fun r hr hr0 hr1 hr2 => run_l tabOk ?_); conv => whnf) | (refine wl_quo rfl rfl rfl rfl rfl rfl (by omega) (by omega) (by simp only [inK]; omega) (run_l tabOk ?_); conv => whnf) | (refine wl_mul rfl rfl rfl rfl rfl rfl (by omega) (by omega) (run_l tabOk ?_); conv => whnf) | (refine gs_dt (by first | assumption | omega) ?_; conv => whnf) | (refine gs_df (by first | assumption | omega) ?_; conv => whnf) | (refine gs_t (by assumption) ?_; conv => whnf) | (refine gs_f (by assumption) ?_; conv => whnf) | (refine gs_d (fun hg => ?_) (fun hg => ?_) <;> conv => whnf) | (refine gs_n (fun hg => ?_) (fun hg => ?_) <;> conv => whnf) | (refine gs_nb (fun hg => ?_) (fun hg => ?_) <;> conv => whnf) | (refine gs_b (fun hg => ?_) (fun hg => ?_) <;> conv => whnf) | refine fin1 rfl rfl ?_))
      refine wl_C fn16 hgo rfl rfl rfl rfl rfl rfl rfl ?_
      rintro _ v8 ⟨A', B', C', rfl, k1, k2, k3, hB8⟩
      refine ⟨_, rfl, run_l tabOk ?_⟩
      have hlab := oLabels (k + 3) (rowInto k true) (gF (k + 3) (rowB k)) (looseB (rowSys k true) ++ List.replicate (k + 3) true) A' B' C' (2 * (k + 3)) (k + 3) (2 * (k + 3)) v8 hG k1 k2 k3
      rw [hni, hnb, hnl] at hlab
      conv => whnf
      refine wl_C fn17 hlab rfl rfl rfl rfl rfl rfl rfl ?_
      rintro _ w9 ⟨kn, of, go, hK, rfl, hR, hB9⟩
      obtain ⟨r1, r2, r3, r4⟩ := rl_all hk2' hk81 hG hK
      obtain ⟨l, hl⟩ : ∃ l : Nat → Int, l = rl k true kn of := ⟨_, rfl⟩
      rw [← hl] at r1 r2 r3 r4
      have rdl : ∀ j, j < k + 3 → w9.cell? ((⟨go, 0, none⟩ : Addr).add (j * 1)) = some (.int .i64 (l j)) := fun j hj => by
        obtain ⟨z, ad3, ⟨hz3⟩, e3, hc4, _, _⟩ := intsE hR j (by simpa using hj)
        rw [getElem!_pos _ j (by simpa using hj)] at hz3
        simp at hz3
        subst hz3
        injection e3 with e3
        subst e3
        rw [hl]
        exact hc4
      clear hl hlab hgo hG k1 k2 k3
      have hBw := bup hBq (bup hB8 hB9)
      refine ⟨_, rfl, run_l tabOk ?_⟩
      conv => whnf
      (repeat' (first | (refine wl_add rfl rfl rfl rfl rfl rfl (by omega) (by omega) (run_l tabOk ?_); conv => whnf) | (refine wl_sub rfl rfl rfl rfl rfl rfl (by omega) (by omega) (run_l tabOk ?_); conv => whnf) | (refine wl_cvA tabOk rfl rfl rfl (by simp only [inK]; omega) rfl rfl rfl (run_l tabOk ?_); conv => whnf) | (refine wl_cvB tabOk rfl rfl rfl rfl rfl rfl (run_l tabOk ?_); conv => whnf) | (refine wl_rem rfl rfl rfl rfl rfl rfl (by omega) (by omega) (fun r hr hr0 hr1 hr2 => run_l tabOk ?_); conv => whnf) | (refine wl_quo rfl rfl rfl rfl rfl rfl (by omega) (by omega) (by simp only [inK]; omega) (run_l tabOk ?_); conv => whnf) | (refine wl_mul rfl rfl rfl rfl rfl rfl (by omega) (by omega) (run_l tabOk ?_); conv => whnf) | (refine gs_dt (by first | assumption | omega) ?_; conv => whnf) | (refine gs_df (by first | assumption | omega) ?_; conv => whnf) | (refine gs_t (by assumption) ?_; conv => whnf) | (refine gs_f (by assumption) ?_; conv => whnf) | (refine gs_d (fun hg => ?_) (fun hg => ?_) <;> conv => whnf) | (refine gs_n (fun hg => ?_) (fun hg => ?_) <;> conv => whnf) | (refine gs_nb (fun hg => ?_) (fun hg => ?_) <;> conv => whnf) | (refine gs_b (fun hg => ?_) (fun hg => ?_) <;> conv => whnf) | refine fin1 rfl rfl ?_))
      refine wc_ends 2 (fun _ _ => False) (X := Unit) (fun _ => [(1, .bool true), (5, .int .i64 (k : Int)), (8, .slice (some ⟨go, 0, none⟩) (k + 3) (k + 3))]) (fun _ wi => Below w9.heap.size w9 wi) ?_ (fun _ _ h => h.elim) ?_
      · refine lp_loop tabOk (X := Nat) (fun v => [(1, .bool true), (5, .int .i64 (k : Int)), (8, .slice (some ⟨go, 0, none⟩) (k + 3) (k + 3)), (9, .int .i64 (v : Int))]) (fun v wi => 1 ≤ v ∧ Below w9.heap.size w9 wi) (fun v => k - v) 1 ⟨rfl, rfl, rfl, rfl, trivial⟩ ⟨by omega, Below.refl _ _⟩ ?_
        rintro v G2 wi ⟨hv, hBi⟩
        by_cases hvk : v < k - 1
        · have c1 := cell_up hBi (rdl v (by omega))
          have c0 : wi.cell? ((⟨go, 0, none⟩ : Addr).add ((0 : Int).toNat * 1)) = _ := cell_up hBi (rdl 0 (by omega))
          have hv0 := r1 v hvk
          conv => whnf
          (repeat' (first | (refine wl_add rfl rfl rfl rfl rfl rfl (by omega) (by omega) (run_l tabOk ?_); conv => whnf) | (refine wl_sub rfl rfl rfl rfl rfl rfl (by omega) (by omega) (run_l tabOk ?_); conv => whnf) | (refine wl_cvA tabOk rfl rfl rfl (by simp only [inK]; omega) rfl rfl rfl (run_l tabOk ?_); conv => whnf) | (refine wl_cvB tabOk rfl rfl rfl rfl rfl rfl (run_l tabOk ?_); conv => whnf) | (refine wl_rem rfl rfl rfl rfl rfl rfl (by omega) (by omega) (fun r hr hr0 hr1 hr2 => run_l tabOk ?_); conv => whnf) | (refine wl_quo rfl rfl rfl rfl rfl rfl (by omega) (by omega) (by simp only [inK]; omega) (run_l tabOk ?_); conv => whnf) | (refine wl_mul rfl rfl rfl rfl rfl rfl (by omega) (by omega) (run_l tabOk ?_); conv => whnf) | (refine gs_dt (by first | assumption | omega) ?_; conv => whnf) | (refine gs_df (by first | assumption | omega) ?_; conv => whnf) | (refine gs_t (by assumption) ?_; conv => whnf) | (refine gs_f (by assumption) ?_; conv => whnf) | (refine gs_d (fun hg => ?_) (fun hg => ?_) <;> conv => whnf) | (refine gs_n (fun hg => ?_) (fun hg => ?_) <;> conv => whnf) | (refine gs_nb (fun hg => ?_) (fun hg => ?_) <;> conv => whnf) | (refine gs_b (fun hg => ?_) (fun hg => ?_) <;> conv => whnf) | refine fin1 rfl rfl ?_))
          refine wc_qr tabOk mixed (by kernel_rfl) ?_; conv => whnf
          (repeat' (first | (refine wq_L tabOk rfl rfl rfl rfl rfl rfl c1 (run_q tabOk ?_); conv => whnf) | (refine wq_L tabOk rfl rfl rfl rfl rfl rfl c0 (run_q tabOk ?_); conv => whnf) | (refine wq_Xn tabOk 3 1 rfl rfl rfl rfl rfl rfl rfl (by omega) (run_q tabOk ?_); conv => whnf) | (refine wq_X tabOk 3 1 rfl rfl rfl rfl rfl rfl rfl (by omega) (by omega) (run_q tabOk ?_); conv => whnf) | (refine wq_add rfl rfl rfl rfl rfl rfl (by omega) (by omega) (run_q tabOk ?_); conv => whnf) | (refine wq_sub rfl rfl rfl rfl rfl rfl (by omega) (by omega) (run_q tabOk ?_); conv => whnf) | (refine wq_cvA tabOk rfl rfl rfl (by simp only [inK]; omega) rfl rfl rfl (run_q tabOk ?_); conv => whnf) | (refine wq_cvB tabOk rfl rfl rfl rfl rfl rfl (run_q tabOk ?_); conv => whnf) | (refine wq_rem rfl rfl rfl rfl rfl rfl (by omega) (by omega) (fun r hr hr0 hr1 hr2 => run_q tabOk ?_); conv => whnf) | (refine wq_quo rfl rfl rfl rfl rfl rfl (by omega) (by omega) (by simp only [inK]; omega) (run_q tabOk ?_); conv => whnf) | (refine wq_mul rfl rfl rfl rfl rfl rfl (by omega) (by omega) (run_q tabOk ?_); conv => whnf) | (refine gs_dt (by first | assumption | omega) ?_; conv => whnf) | (refine gs_df (by first | assumption | omega) ?_; conv => whnf) | (refine gs_t (by assumption) ?_; conv => whnf) | (refine gs_f (by assumption) ?_; conv => whnf) | (refine gs_d (fun hg => ?_) (fun hg => ?_) <;> conv => whnf) | (refine gs_n (fun hg => ?_) (fun hg => ?_) <;> conv => whnf) | (refine gs_nb (fun hg => ?_) (fun hg => ?_) <;> conv => whnf) | (refine gs_b (fun hg => ?_) (fun hg => ?_) <;> conv => whnf)))
          intro w10 hB10
          conv => whnf
          (repeat' (first | (refine wl_add rfl rfl rfl rfl rfl rfl (by omega) (by omega) (run_l tabOk ?_); conv => whnf) | (refine wl_sub rfl rfl rfl rfl rfl rfl (by omega) (by omega) (run_l tabOk ?_); conv => whnf) | (refine wl_cvA tabOk rfl rfl rfl (by simp only [inK]; omega) rfl rfl rfl (run_l tabOk ?_); conv => whnf) | (refine wl_cvB tabOk rfl rfl rfl rfl rfl rfl (run_l tabOk ?_); conv => whnf) | (refine wl_rem rfl rfl rfl rfl rfl rfl (by omega) (by omega) (fun r hr hr0 hr1 hr2 => run_l tabOk ?_); conv => whnf) | (refine wl_quo rfl rfl rfl rfl rfl rfl (by omega) (by omega) (by simp only [inK]; omega) (run_l tabOk ?_); conv => whnf) | (refine wl_mul rfl rfl rfl rfl rfl rfl (by omega) (by omega) (run_l tabOk ?_); conv => whnf) | (refine gs_dt (by first | assumption | omega) ?_; conv => whnf) | (refine gs_df (by first | assumption | omega) ?_; conv => whnf) | (refine gs_t (by assumption) ?_; conv => whnf) | (refine gs_f (by assumption) ?_; conv => whnf) | (refine gs_d (fun hg => ?_) (fun hg => ?_) <;> conv => whnf) | (refine gs_n (fun hg => ?_) (fun hg => ?_) <;> conv => whnf) | (refine gs_nb (fun hg => ?_) (fun hg => ?_) <;> conv => whnf) | (refine gs_b (fun hg => ?_) (fun hg => ?_) <;> conv => whnf) | refine fin1 rfl rfl ?_))
          exact ⟨v + 1, ⟨rfl, rfl, rfl, rfl, trivial⟩, ⟨by omega, bup hBi hB10⟩, by omega⟩
        · conv => whnf
          (repeat' (first | (refine wl_add rfl rfl rfl rfl rfl rfl (by omega) (by omega) (run_l tabOk ?_); conv => whnf) | (refine wl_sub rfl rfl rfl rfl rfl rfl (by omega) (by omega) (run_l tabOk ?_); conv => whnf) | (refine wl_cvA tabOk rfl rfl rfl (by simp only [inK]; omega) rfl rfl rfl (run_l tabOk ?_); conv => whnf) | (refine wl_cvB tabOk rfl rfl rfl rfl rfl rfl (run_l tabOk ?_); conv => whnf) | (refine wl_rem rfl rfl rfl rfl rfl rfl (by omega) (by omega) (fun r hr hr0 hr1 hr2 => run_l tabOk ?_); conv => whnf) | (refine wl_quo rfl rfl rfl rfl rfl rfl (by omega) (by omega) (by simp only [inK]; omega) (run_l tabOk ?_); conv => whnf) | (refine wl_mul rfl rfl rfl rfl rfl rfl (by omega) (by omega) (run_l tabOk ?_); conv => whnf) | (refine gs_dt (by first | assumption | omega) ?_; conv => whnf) | (refine gs_df (by first | assumption | omega) ?_; conv => whnf) | (refine gs_t (by assumption) ?_; conv => whnf) | (refine gs_f (by assumption) ?_; conv => whnf) | (refine gs_d (fun hg => ?_) (fun hg => ?_) <;> conv => whnf) | (refine gs_n (fun hg => ?_) (fun hg => ?_) <;> conv => whnf) | (refine gs_nb (fun hg => ?_) (fun hg => ?_) <;> conv => whnf) | (refine gs_b (fun hg => ?_) (fun hg => ?_) <;> conv => whnf) | refine fin1 rfl rfl ?_))
          exact ⟨rfl, (), ⟨rfl, rfl, rfl, trivial⟩, hBi⟩
      · rintro _ G2 wi hBi
        have ek1 : ((k : Int) - 1).toNat = k - 1 := by omega
        have c1 : wi.cell? ((⟨go, 0, none⟩ : Addr).add (((k : Int) - 1).toNat * 1)) = some (.int .i64 (l (k - 1))) := by rw [ek1]; exact cell_up hBi (rdl (k - 1) (by omega))
        have c0 : wi.cell? ((⟨go, 0, none⟩ : Addr).add ((0 : Int).toNat * 1)) = _ := cell_up hBi (rdl 0 (by omega))
        have ck := cell_up hBi (rdl k (by omega))
        generalize l (k - 1) = x1 at *
        generalize l 0 = x0 at *
        generalize l k = xk at *
        have hb1 : (decide (x1 = x0) == false) = true := by simp [r4]
        have hb2 : decide (¬ x1 = xk) = true := by simp [r3]
        have hb3 : (!decide (x1 = xk)) = true := by simp [r3]
        have hb4 : decide (x1 ≠ xk) = true := by simp [r3]
        conv => whnf
        refine wc_qr tabOk mixed (by kernel_rfl) ?_; conv => whnf
        (repeat' (first | (refine wq_L tabOk rfl rfl rfl rfl rfl rfl c1 (run_q tabOk ?_); conv => whnf) | (refine wq_L tabOk rfl rfl rfl rfl rfl rfl c0 (run_q tabOk ?_); conv => whnf) | (refine wq_L tabOk rfl rfl rfl rfl rfl rfl ck (run_q tabOk ?_); conv => whnf) | (refine wq_Xn tabOk 3 1 rfl rfl rfl rfl rfl rfl rfl (by omega) (run_q tabOk ?_); conv => whnf) | (refine wq_X tabOk 3 1 rfl rfl rfl rfl rfl rfl rfl (by omega) (by omega) (run_q tabOk ?_); conv => whnf) | (rw [hb1]; (conv => whnf)) | (rw [hb2]; (conv => whnf)) | (rw [hb3]; (conv => whnf)) | (rw [hb4]; (conv => whnf)) | (refine wq_add rfl rfl rfl rfl rfl rfl (by omega) (by omega) (run_q tabOk ?_); conv => whnf) | (refine wq_sub rfl rfl rfl rfl rfl rfl (by omega) (by omega) (run_q tabOk ?_); conv => whnf) | (refine wq_cvA tabOk rfl rfl rfl (by simp only [inK]; omega) rfl rfl rfl (run_q tabOk ?_); conv => whnf) | (refine wq_cvB tabOk rfl rfl rfl rfl rfl rfl (run_q tabOk ?_); conv => whnf) | (refine wq_rem rfl rfl rfl rfl rfl rfl (by omega) (by omega) (fun r hr hr0 hr1 hr2 => run_q tabOk ?_); conv => whnf) | (refine wq_quo rfl rfl rfl rfl rfl rfl (by omega) (by omega) (by simp only [inK]; omega) (run_q tabOk ?_); conv => whnf) | (refine wq_mul rfl rfl rfl rfl rfl rfl (by omega) (by omega) (run_q tabOk ?_); conv => whnf) | (refine gs_dt (by first | assumption | omega) ?_; conv => whnf) | (refine gs_df (by first | assumption | omega) ?_; conv => whnf) | (refine gs_t (by assumption) ?_; conv => whnf) | (refine gs_f (by assumption) ?_; conv => whnf) | (refine gs_d (fun hg => ?_) (fun hg => ?_) <;> conv => whnf) | (refine gs_n (fun hg => ?_) (fun hg => ?_) <;> conv => whnf) | (refine gs_nb (fun hg => ?_) (fun hg => ?_) <;> conv => whnf) | (refine gs_b (fun hg => ?_) (fun hg => ?_) <;> conv => whnf)))
        intro w10 hB10
        conv => whnf
        (repeat' (first | (refine wl_add rfl rfl rfl rfl rfl rfl (by omega) (by omega) (run_l tabOk ?_); conv => whnf) | (refine wl_sub rfl rfl rfl rfl rfl rfl (by omega) (by omega) (run_l tabOk ?_); conv => whnf) | (refine wl_cvA tabOk rfl rfl rfl (by simp only [inK]; omega) rfl rfl rfl (run_l tabOk ?_); conv => whnf) | (refine wl_cvB tabOk rfl rfl rfl rfl rfl rfl (run_l tabOk ?_); conv => whnf) | (refine wl_rem rfl rfl rfl rfl rfl rfl (by omega) (by omega) (fun r hr hr0 hr1 hr2 => run_l tabOk ?_); conv => whnf) | (refine wl_quo rfl rfl rfl rfl rfl rfl (by omega) (by omega) (by simp only [inK]; omega) (run_l tabOk ?_); conv => whnf) | (refine wl_mul rfl rfl rfl rfl rfl rfl (by omega) (by omega) (run_l tabOk ?_); conv => whnf) | (refine gs_dt (by first | assumption | omega) ?_; conv => whnf) | (refine gs_df (by first | assumption | omega) ?_; conv => whnf) | (refine gs_t (by assumption) ?_; conv => whnf) | (refine gs_f (by assumption) ?_; conv => whnf) | (refine gs_d (fun hg => ?_) (fun hg => ?_) <;> conv => whnf) | (refine gs_n (fun hg => ?_) (fun hg => ?_) <;> conv => whnf) | (refine gs_nb (fun hg => ?_) (fun hg => ?_) <;> conv => whnf) | (refine gs_b (fun hg => ?_) (fun hg => ?_) <;> conv => whnf) | refine fin1 rfl rfl ?_))
        exact ⟨by first | rfl | simp [r3] | (rw [hb3]) , bup hBw (bup hBi hB10)⟩
end Go.Proofs.Ytomldckplkecbaa
