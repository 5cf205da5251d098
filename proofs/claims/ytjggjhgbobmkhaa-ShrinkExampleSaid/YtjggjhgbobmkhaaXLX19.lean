/- The walk of ShrinkExample. -/
import Derived.Test.YtjggjhgbobmkhaaA24
import Derived.Test.YtjggjhgbobmkhaaA25
import Derived.Test.YtjggjhgbobmkhaaA8
namespace Go.Proofs.Ytjggjhgbobmkhaa
open Go.RowKit
set_option linter.unusedVariables false
set_option linter.unusedSimpArgs false
set_option maxRecDepth 100000
def exXs : List Cell := [⟨false, 4, []⟩, ⟨false, 5, []⟩]
def exYs : List Con := [⟨1, 0, 1, []⟩, ⟨3, 1, 0, []⟩, ⟨1, 2, 0, []⟩, ⟨2, 2, 3, []⟩, ⟨3, 3, 1, []⟩, ⟨4, 1, 2, []⟩]
def rotN (tr i : Nat) : List Con := (List.range i).map fun (j : Nat) => exYs[(j + tr) % 6]!
theorem rotN_len (tr i : Nat) : (rotN tr i).length = i := by simp [rotN]
theorem rotN_next (tr i : Nat) : rotN tr (i + 1) = rotN tr i ++ [exYs[(i + tr) % 6]!] := by simp [rotN, List.range_succ]
theorem rot_mem {tr : Nat} (ht : tr < 6) {c : Con} : c ∈ rotN tr 6 ↔ c ∈ exYs := by
  unfold rotN
  rw [List.mem_map]
  constructor
  · rintro ⟨j, _, rfl⟩
    rw [getElem!_pos exYs _ (by show _ < 6; omega)]
    exact List.getElem_mem _
  · intro h
    obtain ⟨k, hk, e⟩ := List.getElem_of_mem h
    have hk6 : k < 6 := hk
    refine ⟨(k + 6 - tr) % 6, List.mem_range.2 (by omega), ?_⟩
    rw [show ((k + 6 - tr) % 6 + tr) % 6 = k by omega, getElem!_pos exYs k hk, e]
theorem ex_right {tr : Nat} (ht : tr < 6) : rightB ⟨((6 : Nat) : Int), exXs, rotN tr 6⟩ = true := by
  have h0 : rightB ⟨((6 : Nat) : Int), exXs, exYs⟩ = true := by decide
  simp only [rightB, bigOk, Bool.and_eq_true, decide_eq_true_eq, List.all_eq_true] at h0 ⊢
  obtain ⟨⟨⟨⟨h3, h2⟩, h5⟩, h4⟩, h6⟩ := h0
  exact ⟨⟨⟨⟨h3, h2⟩, by rw [rotN_len]; omega⟩, h4⟩, fun c hc => h6 c ((rot_mem ht).1 hc)⟩
def exP (v o : Nat) : Prop := (v = 0 ∧ o = 1) ∨ (v = 2 ∧ o = 0)
theorem ex_least {tr : Nat} (ht : tr < 6) : IsLeast ⟨((6 : Nat) : Int), exXs, rotN tr 6⟩ (mkM 6 2 exP) := by
  have g : ∀ v o, mg (mkM 6 2 exP) v o = true ↔ exP v o := fun v o => by
    rw [mg_mk]
    exact ⟨fun h => h.2.2, fun h => ⟨by unfold exP at h; omega, by unfold exP at h; omega, h⟩⟩
  refine ⟨⟨by simp [mkM], fun i hi => by rw [getElem!_pos _ i (by simpa [mkM] using hi)]; simp [mkM, exXs]⟩, closed_con.2 fun c hc => ?_, fun N hN v o hm => ?_⟩
  · have hc := (rot_mem ht).1 hc
    simp only [exYs, List.mem_cons, List.not_mem_nil, or_false] at hc
    rcases hc with rfl | rfl | rfl | rfl | rfl | rfl
    · refine ⟨fun _ => (g _ _).2 (.inl ⟨rfl, rfl⟩), fun h => absurd (show (1 : Int) = 2 from h) (by decide), fun h => absurd rfl h⟩
    · refine ⟨fun h => absurd (show (3 : Int) = 1 from h) (by decide), fun h => absurd (show (3 : Int) = 2 from h) (by decide), fun _ _ p hp hs => ?_⟩
      have h1 : exP 0 p := (g _ _).1 hs
      have hp1 : p = 1 := by unfold exP at h1; omega
      subst hp1
      refine ⟨fun _ _ _ _ o ho => ?_, fun h => absurd (show (3 : Int) = 4 from h) (by decide), fun h => absurd (show (3 : Int) = 5 from h) (by decide)⟩
      have h2 : exP 5 o := (g _ _).1 ho
      unfold exP at h2
      omega
    · refine ⟨fun _ => (g _ _).2 (.inr ⟨rfl, rfl⟩), fun h => absurd (show (1 : Int) = 2 from h) (by decide), fun h => absurd rfl h⟩
    · refine ⟨fun h => absurd (show (2 : Int) = 1 from h) (by decide), fun _ _ _ o ho => ?_, fun _ h => absurd rfl h⟩
      have h2 : exP 3 o := (g _ _).1 ho
      unfold exP at h2
      omega
    · refine ⟨fun h => absurd (show (3 : Int) = 1 from h) (by decide), fun h => absurd (show (3 : Int) = 2 from h) (by decide), fun _ _ p hp hs => ?_⟩
      have h1 : exP 1 p := (g _ _).1 hs
      unfold exP at h1
      omega
    · refine ⟨fun h => absurd (show (4 : Int) = 1 from h) (by decide), fun h => absurd (show (4 : Int) = 2 from h) (by decide), fun _ _ p hp hs => ?_⟩
      have h1 : exP 1 p := (g _ _).1 hs
      unfold exP at h1
      omega
  · have hN := closed_con.1 hN
    rcases (g v o).1 hm with ⟨rfl, rfl⟩ | ⟨rfl, rfl⟩
    · exact (hN ⟨1, 0, 1, []⟩ ((rot_mem ht).2 (by simp [exYs]))).1 rfl
    · exact (hN ⟨1, 2, 0, []⟩ ((rot_mem ht).2 (by simp [exYs]))).1 rfl
theorem ex_cells {w : World} {g : Nat} (hb : w.heap[g]? = some (.cells #[.int .u8 1, .int .i64 0, .int .i64 1, .slice none 0 0, .int .u8 3, .int .i64 1, .int .i64 0, .slice none 0 0, .int .u8 1, .int .i64 2, .int .i64 0, .slice none 0 0, .int .u8 2, .int .i64 2, .int .i64 3, .slice none 0 0, .int .u8 3, .int .i64 3, .int .i64 1, .slice none 0 0, .int .u8 4, .int .i64 1, .int .i64 2, .slice none 0 0] 46 (0, 0))) {k : Nat} (hk : k < 6) :
    cellsAt w ((⟨g, 0, none⟩ : Addr).add (k * 4)) 0 [.int .u8 exYs[k]!.k, .int .i64 exYs[k]!.a, .int .i64 exYs[k]!.b, .slice none 0 0] ∧ (∀ w', dCon w' [.int .u8 exYs[k]!.k, .int .i64 exYs[k]!.a, .int .i64 exYs[k]!.b, .slice none 0 0] exYs[k]!) := by
  have hc : ∀ q v, (#[.int .u8 1, .int .i64 0, .int .i64 1, .slice none 0 0, .int .u8 3, .int .i64 1, .int .i64 0, .slice none 0 0, .int .u8 1, .int .i64 2, .int .i64 0, .slice none 0 0, .int .u8 2, .int .i64 2, .int .i64 3, .slice none 0 0, .int .u8 3, .int .i64 3, .int .i64 1, .slice none 0 0, .int .u8 4, .int .i64 1, .int .i64 2, .slice none 0 0] : Array Value)[q]? = some v → w.cell? ⟨g, q, none⟩ = some v := fun q v h => cell_blk hb h
  have : k = 0 ∨ k = 1 ∨ k = 2 ∨ k = 3 ∨ k = 4 ∨ k = 5 := by omega
  rcases this with rfl | rfl | rfl | rfl | rfl | rfl
  · exact ⟨⟨hc 0 _ rfl, hc 1 _ rfl, hc 2 _ rfl, hc 3 _ rfl, trivial⟩, fun w' => dCon_nil w' 1 0 1 (by decide) (by decide) (by decide)⟩
  · exact ⟨⟨hc 4 _ rfl, hc 5 _ rfl, hc 6 _ rfl, hc 7 _ rfl, trivial⟩, fun w' => dCon_nil w' 3 1 0 (by decide) (by decide) (by decide)⟩
  · exact ⟨⟨hc 8 _ rfl, hc 9 _ rfl, hc 10 _ rfl, hc 11 _ rfl, trivial⟩, fun w' => dCon_nil w' 1 2 0 (by decide) (by decide) (by decide)⟩
  · exact ⟨⟨hc 12 _ rfl, hc 13 _ rfl, hc 14 _ rfl, hc 15 _ rfl, trivial⟩, fun w' => dCon_nil w' 2 2 3 (by decide) (by decide) (by decide)⟩
  · exact ⟨⟨hc 16 _ rfl, hc 17 _ rfl, hc 18 _ rfl, hc 19 _ rfl, trivial⟩, fun w' => dCon_nil w' 3 3 1 (by decide) (by decide) (by decide)⟩
  · exact ⟨⟨hc 20 _ rfl, hc 21 _ rfl, hc 22 _ rfl, hc 23 _ rfl, trivial⟩, fun w' => dCon_nil w' 4 1 2 (by decide) (by decide) (by decide)⟩
theorem rowPts_nilx {r : List Bool} (h : ∀ j : Nat, ¬ r[j]! = true) : rowPts r = [] := by
  unfold rowPts rowTo
  rw [List.map_eq_nil_iff, List.filter_eq_nil_iff]
  exact fun j _ => h j
theorem LRow.putx {α : Type} [Inhabited α] {sz : Nat} {d : Dec α} {e : TypeId} {base : Nat} {w0 w w1 : World} {v : Value} {xs : List α} (h : LRow sz d e base w0 w v xs) {g : Nat} {cs : List Value} {t : TypeId} (hp : Put w w1 g cs t) (hg : g < base) : LRow sz d e base w0 w1 v xs := by
  obtain ⟨flat, o1, o2⟩ := h.own
  exact ⟨flat, o1.kept hp.grown (.inr fun e => by have := (o1.lt _ e).1; omega), o2⟩
set_option maxHeartbeats 16000000 in
theorem lawShrinkExample (mode turn : Int) (w : World) (hm : 0 ≤ mode ∧ mode ≤ 255) (ht : 0 ≤ turn ∧ turn ≤ 255) :
    Calls Try.prog 12 #[.int .u8 mode, .int .u8 turn] w fun e w' => e = .returned (.bool true) ∧ Below w.heap.size w w' := by
  refine enterR (args := [.int .u8 mode, .int .u8 turn]) tabOk Try.func12 rfl Try.ntmps12 rfl ?_; conv => whnf
  refine wl_C fn25 (awake19 _) rfl rfl rfl rfl rfl rfl rfl ?_
  rintro _ w1 ⟨rfl, hB1⟩
  refine ⟨_, rfl, run_l tabOk ?_⟩
  conv => whnf
  refine wl_bs tabOk 46 4 rfl rfl rfl rfl rfl rfl rfl rfl rfl rfl ?_
  intro g5 w2 hn2
  refine run_l tabOk ?_
  conv => whnf
  refine wl_bs tabOk 44 3 rfl rfl rfl rfl rfl rfl rfl rfl rfl rfl ?_
  intro g4 w3 hn3
  refine run_l tabOk ?_
  conv => whnf
  refine wl_alloc tabOk rfl rfl rfl rfl rfl rfl ?_
  intro g6 w4 hn4
  refine run_l tabOk ?_
  conv => whnf
  refine wl_Sa tabOk hn4.blk rfl rfl rfl rfl rfl (by simp [Value.oneCell']) rfl rfl ?_
  intro w5 hp5
  refine run_l tabOk ?_
  conv => whnf
  have q2 := hn2.at_
  have q3 := hn3.at_
  have q4 := hn4.at_
  have q1s := hB1.size
  have q2s := hn2.size
  have q3s := hn3.size
  have q4s := hn4.size
  have hb5 := hp5.old (hn4.old (hn3.old hn2.blk)) (by omega)
  have hb4 := hp5.old (hn4.old hn3.blk) (by omega)
  have hb6 : w5.heap[g6]? = some (.cells #[.int .i64 6, .slice (some ⟨g4, 0, none⟩) 2 2, .slice none 0 0] 29 (0, 0)) := hp5.blk
  have hB5 : Below w.heap.size w w5 := hp5.below (hn4.up (hn3.up (hn2.up hB1))) (by omega) (by omega)
  have hxs : ∀ W : World, W.heap[g4]? = w5.heap[g4]? → RCells W (some ⟨g4, 0, none⟩) exXs := fun W hW => row_of_blk (hW.trans hb4) ((Elems.one (d := dCell) rfl (dCell_nil _ false 4 (by decide) (by decide))).push (cs := [.bool false, .int .i64 5, .slice none 0 0]) rfl (dCell_nil _ false 5 (by decide) (by decide))) (by simp [exXs])
  have hg6 : w.heap.size ≤ g6 := by omega
  have hg6l := blk_lt hb6
  have hids : g5 ≠ g6 ∧ g4 ≠ g6 := ⟨by omega, by omega⟩
  have hb5 : w5.heap[g5]? = some (.cells #[.int .u8 1, .int .i64 0, .int .i64 1, .slice none 0 0, .int .u8 3, .int .i64 1, .int .i64 0, .slice none 0 0, .int .u8 1, .int .i64 2, .int .i64 0, .slice none 0 0, .int .u8 2, .int .i64 2, .int .i64 3, .slice none 0 0, .int .u8 3, .int .i64 3, .int .i64 1, .slice none 0 0, .int .u8 4, .int .i64 1, .int .i64 2, .slice none 0 0] 46 (0, 0)) := hb5
  have hl4 := blk_lt hb4
  clear hn2 hn3 hn4 hp5 q2 q3 q4 q1s q2s q3s q4s hb4 hB1
  obtain ⟨tr, htr⟩ : ∃ tr : Nat, tr = (turn % 6).toNat := ⟨_, rfl⟩
  have htr6 : tr < 6 := by omega
  (repeat' (first | ((first | refine wl_add rfl rfl rfl rfl rfl rfl (by omega) (by omega) (run_l tabOk ?_) | refine wl_sub rfl rfl rfl rfl rfl rfl (by omega) (by omega) (run_l tabOk ?_) | refine wl_cvA tabOk rfl rfl rfl (by simp only [inK]; omega) rfl rfl rfl (run_l tabOk ?_) | refine wl_cvB tabOk rfl rfl rfl rfl rfl rfl (run_l tabOk ?_) | refine wl_rem rfl rfl rfl rfl rfl rfl (by omega) (by omega) (fun r hr hr0 hr1 hr2 => run_l tabOk ?_) | refine wl_quo rfl rfl rfl rfl rfl rfl (by omega) (by omega) (by simp only [inK]; omega) (run_l tabOk ?_) | refine wl_mul rfl rfl rfl rfl rfl rfl (by omega) (by omega) (run_l tabOk ?_) | refine gs_dt (by first | assumption | omega) ?_ | refine gs_df (by first | assumption | omega) ?_ | refine gs_t (by assumption) ?_ | refine gs_f (by assumption) ?_ | refine gs_d (fun hg => ?_) (fun hg => ?_) | refine gs_n (fun hg => ?_) (fun hg => ?_) | refine gs_nb (fun hg => ?_) (fun hg => ?_) | refine gs_b (fun hg => ?_) (fun hg => ?_)) <;> conv => whnf) | refine fin1 rfl rfl ?_))
  refine wc_ends 0 (fun _ _ => False) (X := Option Addr × Nat) (fun _ => [(0, .int .u8 mode), (6, .pointer (some ⟨g6, 0, none⟩))]) (fun x wr => Below w.heap.size w wr ∧ Kept [g6] w5 wr ∧ wr.heap[g6]? = some (.cells #[.int .i64 6, .slice (some ⟨g4, 0, none⟩) 2 2, .slice x.1 6 x.2] 29 (0, 0)) ∧ LRow 4 dCon 46 w5.heap.size w wr (.slice x.1 6 x.2) (rotN tr 6)) ?_ (fun _ _ h => h.elim) ?_
  · refine lp_loop tabOk (X := Nat × Option Addr × Nat) (fun x => [(0, .int .u8 mode), (1, .int .u8 turn), (5, .slice (some ⟨g5, 0, none⟩) 6 6), (6, .pointer (some ⟨g6, 0, none⟩)), (7, .int .i64 (x.1 : Int))]) (fun x wr => x.1 ≤ 6 ∧ Below w.heap.size w wr ∧ Kept [g6] w5 wr ∧ wr.heap[g6]? = some (.cells #[.int .i64 6, .slice (some ⟨g4, 0, none⟩) 2 2, .slice x.2.1 x.1 x.2.2] 29 (0, 0)) ∧ LRow 4 dCon 46 w5.heap.size w wr (.slice x.2.1 x.1 x.2.2) (rotN tr x.1)) (fun x => 6 - x.1) (0, none, 0) ⟨rfl, rfl, rfl, rfl, rfl, trivial⟩ ⟨by simp, hB5, Kept.refl _ _, hb6, LRow.nil ..⟩ ?_
    clear hb6
    rintro ⟨i, D, dc⟩ G wr ⟨hi, hBr, hkr, hb6, hrow⟩
    simp only at hi hBr hkr hb6 hrow
    by_cases hil : i < 6
    · have hb5r := hkr.blk hb5 (by simp; exact hids.1)
      obtain ⟨flat, hown, hel⟩ := hrow.own
      rw [rotN_len] at hown
      have hall : ∀ r : Int, r = ((i : Int) + turn % 6) % 6 → cellsAt wr ((⟨g5, 0, none⟩ : Addr).add (r.toNat * 4)) 0 [.int .u8 exYs[(i + tr) % 6]!.k, .int .i64 exYs[(i + tr) % 6]!.a, .int .i64 exYs[(i + tr) % 6]!.b, .slice none 0 0] := fun r hr => by
        have e : r.toNat = (i + tr) % 6 := by omega
        rw [e]
        exact (ex_cells hb5r (by omega)).1
      have hdx := fun w' => (ex_cells (k := (i + tr) % 6) hb5r (by omega)).2 w'
      have hszr := hkr.size
      conv => whnf
      (repeat' (first | ((first | refine wl_add rfl rfl rfl rfl rfl rfl (by omega) (by omega) (run_l tabOk ?_) | refine wl_sub rfl rfl rfl rfl rfl rfl (by omega) (by omega) (run_l tabOk ?_) | refine wl_cvA tabOk rfl rfl rfl (by simp only [inK]; omega) rfl rfl rfl (run_l tabOk ?_) | refine wl_cvB tabOk rfl rfl rfl rfl rfl rfl (run_l tabOk ?_) | refine wl_rem rfl rfl rfl rfl rfl rfl (by omega) (by omega) (fun r hr hr0 hr1 hr2 => run_l tabOk ?_) | refine wl_quo rfl rfl rfl rfl rfl rfl (by omega) (by omega) (by simp only [inK]; omega) (run_l tabOk ?_) | refine wl_mul rfl rfl rfl rfl rfl rfl (by omega) (by omega) (run_l tabOk ?_) | refine gs_dt (by first | assumption | omega) ?_ | refine gs_df (by first | assumption | omega) ?_ | refine gs_t (by assumption) ?_ | refine gs_f (by assumption) ?_ | refine gs_d (fun hg => ?_) (fun hg => ?_) | refine gs_n (fun hg => ?_) (fun hg => ?_) | refine gs_nb (fun hg => ?_) (fun hg => ?_) | refine gs_b (fun hg => ?_) (fun hg => ?_)) <;> conv => whnf) | refine fin1 rfl rfl ?_))
      refine wc_qx [0, 1, 2, 3, 4, 5, 6, 7, 8, 9, 10] 1 12 (stable_Bw _) tabOk mixed (by kernel_rfl) (Below.refl _ _) ?_; (conv => whnf)
      (repeat' (first | (refine wq_Lg tabOk hb6 rfl rfl rfl rfl rfl rfl rfl (run_q tabOk ?_); conv => whnf) | (refine wq_Lg tabOk hb6 rfl rfl rfl rfl rfl rfl rfl (run_q tabOk ?_); conv => whnf) | (refine wq_rem rfl rfl rfl rfl rfl rfl (by omega) (by omega) (fun p p1 p2 p3 p4 => run_q tabOk ?_); (conv => whnf)) | (refine wq_X tabOk 46 4 rfl rfl rfl rfl rfl rfl rfl (by omega) (by omega) (run_q tabOk ?_); conv => whnf) | (refine wq_La tabOk (hall _ (by omega)) rfl rfl rfl rfl rfl rfl (run_q tabOk ?_); conv => whnf) | ((first | refine wq_add rfl rfl rfl rfl rfl rfl (by omega) (by omega) (run_q tabOk ?_) | refine wq_sub rfl rfl rfl rfl rfl rfl (by omega) (by omega) (run_q tabOk ?_) | refine wq_cvA tabOk rfl rfl rfl (by simp only [inK]; omega) rfl rfl rfl (run_q tabOk ?_) | refine wq_cvB tabOk rfl rfl rfl rfl rfl rfl (run_q tabOk ?_) | refine wq_rem rfl rfl rfl rfl rfl rfl (by omega) (by omega) (fun r hr hr0 hr1 hr2 => run_q tabOk ?_) | refine wq_quo rfl rfl rfl rfl rfl rfl (by omega) (by omega) (by simp only [inK]; omega) (run_q tabOk ?_) | refine wq_mul rfl rfl rfl rfl rfl rfl (by omega) (by omega) (run_q tabOk ?_) | refine gs_dt (by first | assumption | omega) ?_ | refine gs_df (by first | assumption | omega) ?_ | refine gs_t (by assumption) ?_ | refine gs_f (by assumption) ?_ | refine gs_d (fun hg => ?_) (fun hg => ?_) | refine gs_n (fun hg => ?_) (fun hg => ?_) | refine gs_nb (fun hg => ?_) (fun hg => ?_) | refine gs_b (fun hg => ?_) (fun hg => ?_)) <;> conv => whnf)))
      intro W hC hBW
      conv => whnf
      refine And.intro ?_ True.intro
      conv => whnf
      refine wb_a (wa_bs tabOk 46 4 rfl rfl rfl rfl rfl rfl rfl rfl rfl ?_)
      intro gn W1 hn1
      refine ⟨bup hC hn1.below, fun W2 hB2 hC2 => ?_⟩
      have hBz := bup (bup hBW hn1.below) hB2
      have hbn := blk_up hB2 hn1.blk
      clear hC hn1
      conv => whnf
      refine wl_ap tabOk 46 4 48 (hown.kept (grown_of hBz) (Classical.em _)) hbn rfl rfl rfl rfl rfl rfl rfl rfl rfl rfl rfl rfl (by simp [Value.oneCell']) (by omega) (by omega) (by have := hBz.size; omega) ?_
      intro E ec u2 hown2 hg2 hob2
      refine run_l tabOk ?_
      conv => whnf
      have hgu : wr.grownBy u2 (Value.slice D i dc).ownBlock := grown_trans (grown_of hBz) hg2
      have hb6u : u2.heap[g6]? = _ := (hgu.block g6 (blk_lt hb6) (fun e => by have := (hown.lt g6 e.symm).1; omega)).trans hb6
      refine wl_S (off := 2) (v := .slice E (i + 1) ec) tabOk hb6u rfl rfl rfl rfl rfl rfl (by simp) rfl rfl ?_
      intro u3 hp3
      refine run_l tabOk ?_
      conv => whnf
      (repeat' (first | ((first | refine wl_add rfl rfl rfl rfl rfl rfl (by omega) (by omega) (run_l tabOk ?_) | refine wl_sub rfl rfl rfl rfl rfl rfl (by omega) (by omega) (run_l tabOk ?_) | refine wl_cvA tabOk rfl rfl rfl (by simp only [inK]; omega) rfl rfl rfl (run_l tabOk ?_) | refine wl_cvB tabOk rfl rfl rfl rfl rfl rfl (run_l tabOk ?_) | refine wl_rem rfl rfl rfl rfl rfl rfl (by omega) (by omega) (fun r hr hr0 hr1 hr2 => run_l tabOk ?_) | refine wl_quo rfl rfl rfl rfl rfl rfl (by omega) (by omega) (by simp only [inK]; omega) (run_l tabOk ?_) | refine wl_mul rfl rfl rfl rfl rfl rfl (by omega) (by omega) (run_l tabOk ?_) | refine gs_dt (by first | assumption | omega) ?_ | refine gs_df (by first | assumption | omega) ?_ | refine gs_t (by assumption) ?_ | refine gs_f (by assumption) ?_ | refine gs_d (fun hg => ?_) (fun hg => ?_) | refine gs_n (fun hg => ?_) (fun hg => ?_) | refine gs_nb (fun hg => ?_) (fun hg => ?_) | refine gs_b (fun hg => ?_) (fun hg => ?_)) <;> conv => whnf) | refine fin1 rfl rfl ?_))
      have hB2' : Below w.heap.size w u2 := hBr.grown hgu hBr.size (fun k hk => by have := (hown.lt k hk).1; have := hB5.size; omega)
      have hB3' : Below w.heap.size w u3 := hp3.below hB2' hg6 hB2'.size
      have hk3 := (hkr.grown hgu (fun g e => .inr (hown.lt g e).1)).put hp3 (.inl (by simp))
      have hr3 : LRow 4 dCon 46 w5.heap.size w u2 (.slice E (i + 1) ec) (rotN tr (i + 1)) := by
        refine ⟨_, by rw [rotN_len]; exact hown2, fun w' hw' => ?_⟩
        rw [rotN_next]
        exact (hel w' hw').push rfl (hdx w')
      exact ⟨(i + 1, E, ec), ⟨rfl, rfl, rfl, rfl, rfl, trivial⟩, ⟨by simp only; omega, hB3', hk3, hp3.blk, hr3.putx hp3 hg6l⟩, by simp only; omega⟩
    · have hi6 : i = 6 := by omega
      subst hi6
      conv => whnf
      (repeat' (first | ((first | refine wl_add rfl rfl rfl rfl rfl rfl (by omega) (by omega) (run_l tabOk ?_) | refine wl_sub rfl rfl rfl rfl rfl rfl (by omega) (by omega) (run_l tabOk ?_) | refine wl_cvA tabOk rfl rfl rfl (by simp only [inK]; omega) rfl rfl rfl (run_l tabOk ?_) | refine wl_cvB tabOk rfl rfl rfl rfl rfl rfl (run_l tabOk ?_) | refine wl_rem rfl rfl rfl rfl rfl rfl (by omega) (by omega) (fun r hr hr0 hr1 hr2 => run_l tabOk ?_) | refine wl_quo rfl rfl rfl rfl rfl rfl (by omega) (by omega) (by simp only [inK]; omega) (run_l tabOk ?_) | refine wl_mul rfl rfl rfl rfl rfl rfl (by omega) (by omega) (run_l tabOk ?_) | refine gs_dt (by first | assumption | omega) ?_ | refine gs_df (by first | assumption | omega) ?_ | refine gs_t (by assumption) ?_ | refine gs_f (by assumption) ?_ | refine gs_d (fun hg => ?_) (fun hg => ?_) | refine gs_n (fun hg => ?_) (fun hg => ?_) | refine gs_nb (fun hg => ?_) (fun hg => ?_) | refine gs_b (fun hg => ?_) (fun hg => ?_)) <;> conv => whnf) | refine fin1 rfl rfl ?_))
      exact ⟨rfl, (D, dc), ⟨rfl, rfl, trivial⟩, hBr, hkr, hb6, hrow⟩
  · clear hb6
    rintro ⟨D, dc⟩ G wr ⟨hBr, hkr, hb6, hrow⟩
    simp only at hb6 hrow
    have hs2 : RCons wr D (rotN tr 6) := hrow.rowAt hBr
    have hs1 := hxs wr (hkr.block g4 hl4 (by simp; exact hids.2))
    have hright := ex_right htr6
    clear hrow hkr hxs hb5
    conv => whnf
    (repeat' (first | (refine wl_Lag tabOk hb6 rfl rfl rfl rfl rfl rfl (run_l tabOk ?_); conv => whnf) | (refine wl_rem rfl rfl rfl rfl rfl rfl (by omega) (by omega) (fun k1 r1 r2 r3 r4 => run_l tabOk ?_); (conv => whnf)) | ((first | refine wl_add rfl rfl rfl rfl rfl rfl (by omega) (by omega) (run_l tabOk ?_) | refine wl_sub rfl rfl rfl rfl rfl rfl (by omega) (by omega) (run_l tabOk ?_) | refine wl_cvA tabOk rfl rfl rfl (by simp only [inK]; omega) rfl rfl rfl (run_l tabOk ?_) | refine wl_cvB tabOk rfl rfl rfl rfl rfl rfl (run_l tabOk ?_) | refine wl_rem rfl rfl rfl rfl rfl rfl (by omega) (by omega) (fun r hr hr0 hr1 hr2 => run_l tabOk ?_) | refine wl_quo rfl rfl rfl rfl rfl rfl (by omega) (by omega) (by simp only [inK]; omega) (run_l tabOk ?_) | refine wl_mul rfl rfl rfl rfl rfl rfl (by omega) (by omega) (run_l tabOk ?_) | refine gs_dt (by first | assumption | omega) ?_ | refine gs_df (by first | assumption | omega) ?_ | refine gs_t (by assumption) ?_ | refine gs_f (by assumption) ?_ | refine gs_d (fun hg => ?_) (fun hg => ?_) | refine gs_n (fun hg => ?_) (fun hg => ?_) | refine gs_nb (fun hg => ?_) (fun hg => ?_) | refine gs_b (fun hg => ?_) (fun hg => ?_)) <;> conv => whnf) | refine fin1 rfl rfl ?_))
    have hby := shBy 6 exXs (rotN tr 6) (some ⟨g4, 0, none⟩) D 2 dc k1 wr hright ⟨by omega, by omega⟩ hs1 hs2
    rw [rotN_len] at hby
    refine wl_C fn27 hby rfl rfl rfl rfl rfl rfl rfl ?_
    rintro _ w6 ⟨gw, wh, lab, H, B, D1, d1, D2, d2, rfl, hA, hcan, hLM, hB6⟩
    refine ⟨_, rfl, run_l tabOk ?_⟩
    conv => whnf
    (repeat' (first | ((first | refine wl_add rfl rfl rfl rfl rfl rfl (by omega) (by omega) (run_l tabOk ?_) | refine wl_sub rfl rfl rfl rfl rfl rfl (by omega) (by omega) (run_l tabOk ?_) | refine wl_cvA tabOk rfl rfl rfl (by simp only [inK]; omega) rfl rfl rfl (run_l tabOk ?_) | refine wl_cvB tabOk rfl rfl rfl rfl rfl rfl (run_l tabOk ?_) | refine wl_rem rfl rfl rfl rfl rfl rfl (by omega) (by omega) (fun r hr hr0 hr1 hr2 => run_l tabOk ?_) | refine wl_quo rfl rfl rfl rfl rfl rfl (by omega) (by omega) (by simp only [inK]; omega) (run_l tabOk ?_) | refine wl_mul rfl rfl rfl rfl rfl rfl (by omega) (by omega) (run_l tabOk ?_) | refine gs_dt (by first | assumption | omega) ?_ | refine gs_df (by first | assumption | omega) ?_ | refine gs_t (by assumption) ?_ | refine gs_f (by assumption) ?_ | refine gs_d (fun hg => ?_) (fun hg => ?_) | refine gs_n (fun hg => ?_) (fun hg => ?_) | refine gs_nb (fun hg => ?_) (fun hg => ?_) | refine gs_b (fun hg => ?_) (fun hg => ?_)) <;> conv => whnf) | refine fin1 rfl rfl ?_))
    refine wl_alloc tabOk rfl rfl rfl rfl rfl rfl ?_
    intro g8 w7 hn7
    refine run_l tabOk ?_
    conv => whnf
    refine wl_Sa tabOk hn7.blk rfl rfl rfl rfl rfl (by simp [Value.oneCell']) rfl rfl ?_
    intro w8 hp8
    have hB68 : Below w6.heap.size w6 w8 := hp8.below hn7.below (by have := hn7.at_; omega) (by have := hn7.size; omega)
    have hbt := hp8.blk
    have hA := hA.up hB68
    obtain ⟨ht1, ht2⟩ := hA.rows
    have hB08 := bup hBr (bup hB6 hB68)
    have hwv : ∀ v, v < 6 → w8.cell? ((⟨gw, 0, none⟩ : Addr).add (v * 1)) = some (.int .i64 (wh v)) := fun v hv => by
      rw [Nat.mul_one, add_zero]
      exact cell_blk hA.wr (by simpa using fZ_get hv)
    clear hp8 hn7 hB6 hB68 hA hby
    refine run_l tabOk ?_
    conv => whnf
    (repeat' (first | ((first | refine wl_add rfl rfl rfl rfl rfl rfl (by omega) (by omega) (run_l tabOk ?_) | refine wl_sub rfl rfl rfl rfl rfl rfl (by omega) (by omega) (run_l tabOk ?_) | refine wl_cvA tabOk rfl rfl rfl (by simp only [inK]; omega) rfl rfl rfl (run_l tabOk ?_) | refine wl_cvB tabOk rfl rfl rfl rfl rfl rfl (run_l tabOk ?_) | refine wl_rem rfl rfl rfl rfl rfl rfl (by omega) (by omega) (fun r hr hr0 hr1 hr2 => run_l tabOk ?_) | refine wl_quo rfl rfl rfl rfl rfl rfl (by omega) (by omega) (by simp only [inK]; omega) (run_l tabOk ?_) | refine wl_mul rfl rfl rfl rfl rfl rfl (by omega) (by omega) (run_l tabOk ?_) | refine gs_dt (by first | assumption | omega) ?_ | refine gs_df (by first | assumption | omega) ?_ | refine gs_t (by assumption) ?_ | refine gs_f (by assumption) ?_ | refine gs_d (fun hg => ?_) (fun hg => ?_) | refine gs_n (fun hg => ?_) (fun hg => ?_) | refine gs_nb (fun hg => ?_) (fun hg => ?_) | refine gs_b (fun hg => ?_) (fun hg => ?_)) <;> conv => whnf) | refine fin1 rfl rfl ?_))
    have hIL := ex_least htr6
    have hW := wok_of hright hIL hcan hLM
    have hsr := sh_right hright hW
    have hl2 := refLeast (nxt wh 6) (exXs.map (shC wh)) (shN wh (decide (¬ k1 = 0)) (rotN tr 6)) D1 D2 d1 d2 w8 ht1 ht2 hsr
    rw [List.length_map] at hl2
    (repeat' (first | (refine wl_Lag tabOk hbt rfl rfl rfl rfl rfl rfl (run_l tabOk ?_); conv => whnf) | ((first | refine wl_add rfl rfl rfl rfl rfl rfl (by omega) (by omega) (run_l tabOk ?_) | refine wl_sub rfl rfl rfl rfl rfl rfl (by omega) (by omega) (run_l tabOk ?_) | refine wl_cvA tabOk rfl rfl rfl (by simp only [inK]; omega) rfl rfl rfl (run_l tabOk ?_) | refine wl_cvB tabOk rfl rfl rfl rfl rfl rfl (run_l tabOk ?_) | refine wl_rem rfl rfl rfl rfl rfl rfl (by omega) (by omega) (fun r hr hr0 hr1 hr2 => run_l tabOk ?_) | refine wl_quo rfl rfl rfl rfl rfl rfl (by omega) (by omega) (by simp only [inK]; omega) (run_l tabOk ?_) | refine wl_mul rfl rfl rfl rfl rfl rfl (by omega) (by omega) (run_l tabOk ?_) | refine gs_dt (by first | assumption | omega) ?_ | refine gs_df (by first | assumption | omega) ?_ | refine gs_t (by assumption) ?_ | refine gs_f (by assumption) ?_ | refine gs_d (fun hg => ?_) (fun hg => ?_) | refine gs_n (fun hg => ?_) (fun hg => ?_) | refine gs_nb (fun hg => ?_) (fun hg => ?_) | refine gs_b (fun hg => ?_) (fun hg => ?_)) <;> conv => whnf) | refine fin1 rfl rfl ?_))
    refine wl_C fn31 hl2 rfl rfl rfl rfl rfl rfl rfl ?_
    rintro _ w9 ⟨M', Aq, caq, rfl, hIL', hrb, hcaq, hB9⟩
    have hsl := fun v (hv : v < 6) o => sh_least hright hIL hW hIL' hv o
    have hgm : ∀ v o, mg (mkM 6 2 exP) v o = true ↔ exP v o := fun v o => by
      rw [mg_mk]
      exact ⟨fun h => h.2.2, fun h => ⟨by unfold exP at h; omega, by unfold exP at h; omega, h⟩⟩
    obtain ⟨cnt, hcn⟩ : ∃ cnt, cnt = nxt wh 6 := ⟨_, rfl⟩
    have hS2 : Shape cnt 2 M' := by rw [hcn]; simpa [exXs] using hIL'.sh
    have h2 := ((hsl 2 (by omega) 0).1 ((hgm 2 0).2 (.inr ⟨rfl, rfl⟩))).1
    have hr2 := (hW.rng 2 (by omega)).2
    have hr3 := hW.rng 3 (by omega)
    have hs2' := hsl 2 (by omega)
    have hs3' := hsl 3 (by omega)
    obtain ⟨q2, hq2⟩ := Int.eq_ofNat_of_zero_le h2
    have c2 : w9.cell? ((⟨gw, 0, none⟩ : Addr).add ((2 : Int).toNat * 1)) = some (.int .i64 (wh 2)) := cell_up hB9 (hwv 2 (by omega))
    have c3 : w9.cell? ((⟨gw, 0, none⟩ : Addr).add ((3 : Int).toNat * 1)) = some (.int .i64 (wh 3)) := cell_up hB9 (hwv 3 (by omega))
    rw [← hcn] at hr2 hr3 ⊢
    have hq2c : q2 < cnt := by omega
    obtain ⟨x2, ad2, B2, e2, ⟨hx2⟩, hA2, hcx2, _, ⟨hRx2⟩⟩ := rowsE hrb q2 (by simp [ptsOf]; rw [hS2.rows]; exact hq2c)
    subst hA2
    have hrl := hS2.cols q2 hq2c
    have hx2e : x2 = [0] := by
      rw [← hx2]
      have e : (ptsOf M')[q2]! = rowPts M'[q2]! := by
        rw [getElem!_pos _ q2 (by simp [ptsOf]; rw [hS2.rows]; exact hq2c), getElem!_pos M' q2 (by rw [hS2.rows]; exact hq2c)]
        simp [ptsOf]
      have t0 : (M'[q2]!)[0]! = true := by
        have := ((hs2' 0).1 ((hgm 2 0).2 (.inr ⟨rfl, rfl⟩))).2
        rw [hq2, Int.toNat_natCast] at this
        exact this
      have t1 : (M'[q2]!)[1]! = false := Bool.eq_false_iff.2 fun h => by
        have h3 : mg M' q2 1 = true := h
        have h4 := (hgm 2 1).1 ((hs2' 1).2 ⟨h2, by rw [hq2, Int.toNat_natCast]; exact h3⟩)
        unfold exP at h4
        omega
      rw [e]
      unfold rowPts rowTo
      rw [hrl]
      simp only [List.range_succ, List.range_zero, List.nil_append, List.filter_append, List.filter_cons, t0, t1, List.filter_nil, if_true, Bool.false_eq_true, if_false, List.append_nil, List.map_cons, List.map_nil, List.cons_append]
      rfl
    subst hx2e
    rw [hq2] at c2
    have hBw := bup hB08 hB9
    have hq20 : (0 : Int) ≤ (q2 : Int) := by omega
    clear hl2 hbt hIL hIL' hW hsr hcan hLM hs1 hs2 ht1 ht2 hwv hs2' hsl
    refine ⟨_, rfl, run_l tabOk ?_⟩
    conv => whnf
    have fin : ∀ W, Below w9.heap.size w9 W → ∀ B3 e3, RI W B3 [(0 : Int)] → Calls Try.prog 29 #[.slice B2 1 e2, .slice B3 1 e3] W fun e w' => e = .returned (.bool true) ∧ Below W.heap.size W w' := fun W hb B3 e3 hR => by
      refine (refSameInts [0] [0] B2 B3 e2 e3 W (hRx2.up (stays_I _) hb) hR).mono ?_
      rintro e w' ⟨h1, h2⟩
      exact ⟨by rw [h1, sameI_refl], h2⟩
    by_cases h0 : wh 3 < 0
    · (repeat' (first | (refine wl_L tabOk rfl rfl rfl rfl rfl rfl c3 (run_l tabOk ?_); conv => whnf) | (refine wl_L tabOk rfl rfl rfl rfl rfl rfl c2 (run_l tabOk ?_); conv => whnf) | (refine wl_L tabOk rfl rfl rfl rfl rfl rfl hcx2 (run_l tabOk ?_); conv => whnf) | (refine wl_X tabOk 3 1 rfl rfl rfl rfl rfl rfl rfl (by omega) (by omega) (run_l tabOk ?_); conv => whnf) | (refine wl_Xn tabOk 31 1 rfl rfl rfl rfl rfl rfl rfl (by omega) (run_l tabOk ?_); conv => whnf) | ((first | refine wl_add rfl rfl rfl rfl rfl rfl (by omega) (by omega) (run_l tabOk ?_) | refine wl_sub rfl rfl rfl rfl rfl rfl (by omega) (by omega) (run_l tabOk ?_) | refine wl_cvA tabOk rfl rfl rfl (by simp only [inK]; omega) rfl rfl rfl (run_l tabOk ?_) | refine wl_cvB tabOk rfl rfl rfl rfl rfl rfl (run_l tabOk ?_) | refine wl_rem rfl rfl rfl rfl rfl rfl (by omega) (by omega) (fun r hr hr0 hr1 hr2 => run_l tabOk ?_) | refine wl_quo rfl rfl rfl rfl rfl rfl (by omega) (by omega) (by simp only [inK]; omega) (run_l tabOk ?_) | refine wl_mul rfl rfl rfl rfl rfl rfl (by omega) (by omega) (run_l tabOk ?_) | refine gs_dt (by first | assumption | omega) ?_ | refine gs_df (by first | assumption | omega) ?_ | refine gs_t (by assumption) ?_ | refine gs_f (by assumption) ?_ | refine gs_d (fun hg => ?_) (fun hg => ?_) | refine gs_n (fun hg => ?_) (fun hg => ?_) | refine gs_nb (fun hg => ?_) (fun hg => ?_) | refine gs_b (fun hg => ?_) (fun hg => ?_)) <;> conv => whnf) | refine fin1 rfl rfl ?_))
      refine wl_bs tabOk 3 1 rfl rfl rfl rfl rfl rfl rfl rfl rfl rfl ?_
      intro gn w10 hn
      refine run_l tabOk ?_
      conv => whnf
      refine wl_C fn29 (fin w10 hn.below (some ⟨gn, 0, none⟩) 1 (row_of_blk hn.blk (Elems.one (d := dI .i64) rfl ⟨rfl, by decide⟩) (by simp))) rfl rfl rfl rfl rfl rfl rfl ?_
      rintro _ w11 ⟨rfl, hB11⟩
      refine ⟨_, rfl, run_l tabOk ?_⟩
      conv => whnf
      (repeat' (first | ((first | refine wl_add rfl rfl rfl rfl rfl rfl (by omega) (by omega) (run_l tabOk ?_) | refine wl_sub rfl rfl rfl rfl rfl rfl (by omega) (by omega) (run_l tabOk ?_) | refine wl_cvA tabOk rfl rfl rfl (by simp only [inK]; omega) rfl rfl rfl (run_l tabOk ?_) | refine wl_cvB tabOk rfl rfl rfl rfl rfl rfl (run_l tabOk ?_) | refine wl_rem rfl rfl rfl rfl rfl rfl (by omega) (by omega) (fun r hr hr0 hr1 hr2 => run_l tabOk ?_) | refine wl_quo rfl rfl rfl rfl rfl rfl (by omega) (by omega) (by simp only [inK]; omega) (run_l tabOk ?_) | refine wl_mul rfl rfl rfl rfl rfl rfl (by omega) (by omega) (run_l tabOk ?_) | refine gs_dt (by first | assumption | omega) ?_ | refine gs_df (by first | assumption | omega) ?_ | refine gs_t (by assumption) ?_ | refine gs_f (by assumption) ?_ | refine gs_d (fun hg => ?_) (fun hg => ?_) | refine gs_n (fun hg => ?_) (fun hg => ?_) | refine gs_nb (fun hg => ?_) (fun hg => ?_) | refine gs_b (fun hg => ?_) (fun hg => ?_)) <;> conv => whnf) | refine fin1 rfl rfl ?_))
      exact ⟨rfl, bup hBw (bup hn.below hB11)⟩
    · obtain ⟨q3, hq3⟩ := Int.eq_ofNat_of_zero_le (show 0 ≤ wh 3 by omega)
      have hq3c : q3 < cnt := by omega
      obtain ⟨x3, ad3, B3, e3, ⟨hx3⟩, hA3, hcx3, _, ⟨hRx3⟩⟩ := rowsE hrb q3 (by simp [ptsOf]; rw [hS2.rows]; exact hq3c)
      have hA3' : ad3 = ad2 := by injection hA3 with e; exact e.symm
      subst hA3'
      have hx3e : x3 = [] := by
        rw [← hx3]
        have e : (ptsOf M')[q3]! = rowPts M'[q3]! := by
          rw [getElem!_pos _ q3 (by simp [ptsOf]; rw [hS2.rows]; exact hq3c), getElem!_pos M' q3 (by rw [hS2.rows]; exact hq3c)]
          simp [ptsOf]
        rw [e]
        refine rowPts_nilx fun j hj => ?_
        have h3 : mg M' q3 j = true := hj
        have h4 := (hgm 3 j).1 ((hs3' j).2 ⟨by omega, by rw [hq3, Int.toNat_natCast]; exact h3⟩)
        unfold exP at h4
        omega
      subst hx3e
      rw [hq3] at c3
      have hq30 : (0 : Int) ≤ (q3 : Int) := by omega
      (repeat' (first | (refine wl_L tabOk rfl rfl rfl rfl rfl rfl c3 (run_l tabOk ?_); conv => whnf) | (refine wl_L tabOk rfl rfl rfl rfl rfl rfl c2 (run_l tabOk ?_); conv => whnf) | (refine wl_L tabOk rfl rfl rfl rfl rfl rfl hcx2 (run_l tabOk ?_); conv => whnf) | (refine wl_L tabOk rfl rfl rfl rfl rfl rfl hcx3 (run_l tabOk ?_); conv => whnf) | (refine wl_X tabOk 3 1 rfl rfl rfl rfl rfl rfl rfl (by omega) (by omega) (run_l tabOk ?_); conv => whnf) | (refine wl_Xn tabOk 31 1 rfl rfl rfl rfl rfl rfl rfl (by omega) (run_l tabOk ?_); conv => whnf) | ((first | refine wl_add rfl rfl rfl rfl rfl rfl (by omega) (by omega) (run_l tabOk ?_) | refine wl_sub rfl rfl rfl rfl rfl rfl (by omega) (by omega) (run_l tabOk ?_) | refine wl_cvA tabOk rfl rfl rfl (by simp only [inK]; omega) rfl rfl rfl (run_l tabOk ?_) | refine wl_cvB tabOk rfl rfl rfl rfl rfl rfl (run_l tabOk ?_) | refine wl_rem rfl rfl rfl rfl rfl rfl (by omega) (by omega) (fun r hr hr0 hr1 hr2 => run_l tabOk ?_) | refine wl_quo rfl rfl rfl rfl rfl rfl (by omega) (by omega) (by simp only [inK]; omega) (run_l tabOk ?_) | refine wl_mul rfl rfl rfl rfl rfl rfl (by omega) (by omega) (run_l tabOk ?_) | refine gs_dt (by first | assumption | omega) ?_ | refine gs_df (by first | assumption | omega) ?_ | refine gs_t (by assumption) ?_ | refine gs_f (by assumption) ?_ | refine gs_d (fun hg => ?_) (fun hg => ?_) | refine gs_n (fun hg => ?_) (fun hg => ?_) | refine gs_nb (fun hg => ?_) (fun hg => ?_) | refine gs_b (fun hg => ?_) (fun hg => ?_)) <;> conv => whnf) | refine fin1 rfl rfl ?_))
      refine wl_bs tabOk 3 1 rfl rfl rfl rfl rfl rfl rfl rfl rfl rfl ?_
      intro gn w10 hn
      refine run_l tabOk ?_
      conv => whnf
      refine wl_C fn29 (fin w10 hn.below (some ⟨gn, 0, none⟩) 1 (row_of_blk hn.blk (Elems.one (d := dI .i64) rfl ⟨rfl, by decide⟩) (by simp))) rfl rfl rfl rfl rfl rfl rfl ?_
      rintro _ w11 ⟨rfl, hB11⟩
      refine ⟨_, rfl, run_l tabOk ?_⟩
      conv => whnf
      (repeat' (first | ((first | refine wl_add rfl rfl rfl rfl rfl rfl (by omega) (by omega) (run_l tabOk ?_) | refine wl_sub rfl rfl rfl rfl rfl rfl (by omega) (by omega) (run_l tabOk ?_) | refine wl_cvA tabOk rfl rfl rfl (by simp only [inK]; omega) rfl rfl rfl (run_l tabOk ?_) | refine wl_cvB tabOk rfl rfl rfl rfl rfl rfl (run_l tabOk ?_) | refine wl_rem rfl rfl rfl rfl rfl rfl (by omega) (by omega) (fun r hr hr0 hr1 hr2 => run_l tabOk ?_) | refine wl_quo rfl rfl rfl rfl rfl rfl (by omega) (by omega) (by simp only [inK]; omega) (run_l tabOk ?_) | refine wl_mul rfl rfl rfl rfl rfl rfl (by omega) (by omega) (run_l tabOk ?_) | refine gs_dt (by first | assumption | omega) ?_ | refine gs_df (by first | assumption | omega) ?_ | refine gs_t (by assumption) ?_ | refine gs_f (by assumption) ?_ | refine gs_d (fun hg => ?_) (fun hg => ?_) | refine gs_n (fun hg => ?_) (fun hg => ?_) | refine gs_nb (fun hg => ?_) (fun hg => ?_) | refine gs_b (fun hg => ?_) (fun hg => ?_)) <;> conv => whnf) | refine fin1 rfl rfl ?_))
      exact ⟨rfl, bup hBw (bup hn.below hB11)⟩
end Go.Proofs.Ytjggjhgbobmkhaa
