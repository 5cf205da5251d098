/- Several texts of one claim in one file: FI16 AW16 A2. -/
import Derived.Test.YtjggjhgbobmkhaaA11
import Derived.Test.YtjggjhgbobmkhaaA8
import Derived.Test.YtjggjhgbobmkhaaA4
/- The walk of knot.Find. -/
namespace Go.Proofs.Ytjggjhgbobmkhaa
open Go.RowKit
set_option linter.unusedVariables false
set_option linter.unusedSimpArgs false
set_option maxRecDepth 100000
/-- Each node's knot, as numbers. -/
def ofI (n : Nat) (f : Nat → Nat) : List Int := (List.range n).map fun v => (f v : Int)
theorem ofI_len (n : Nat) (f : Nat → Nat) : (ofI n f).length = n := by simp [ofI]
theorem ofI_at {n v : Nat} (f : Nat → Nat) (h : v < n) : (ofI n f)[v]! = (f v : Int) := by
  rw [getElem!_pos _ v (by rw [ofI_len]; exact h)]
  simp [ofI]
theorem fI_vi (n : Nat) (f : Nat → Nat) : fI n f = vi ((List.range n).map f) := by simp [fI, vi, List.map_map, Function.comp_def]
theorem fI_zero (n : Nat) : (List.replicate n [Value.int .i64 0]).flatten = fI n fun _ => 0 := by
  induction n with
  | zero => rfl
  | succ n ih =>
    have e : fI (n + 1) (fun _ => 0) = fI n (fun _ => 0) ++ [Value.int .i64 0] := by simp [fI, List.range_succ]
    rw [e, ← ih, List.replicate_succ']
    simp
theorem fB_zero (n : Nat) : (List.replicate n [Value.bool false]).flatten = fB n fun _ => false := by
  induction n with
  | zero => rfl
  | succ n ih =>
    have e : fB (n + 1) (fun _ => false) = fB n (fun _ => false) ++ [Value.bool false] := by simp [fB, List.range_succ]
    rw [e, ← ih, List.replicate_succ']
    simp
/-- The owners at the beginning. -/
def own0 (c : KC) : Nat → Nat := fun b => if b < c.base then 99 else if b = c.gT then 0 else if b = c.gi then 1 else if b = c.gl then 2 else if b = c.gn then 3 else if b = c.go then 4 else 8
theorem ks0 {c : KC} {w : World} (hT : w.heap[c.gT]? = some (.cells (kbox c TS.init (.slice none 0 0) (.slice none 0 0)).toArray 98 (0, 0))) (hi : w.heap[c.gi]? = some (.cells (fI c.n fun _ => 0).toArray 3 (0, 0)))
    (hl : w.heap[c.gl]? = some (.cells (fI c.n fun _ => 0).toArray 3 (0, 0))) (hn : w.heap[c.gn]? = some (.cells (fB c.n fun _ => false).toArray 4 (0, 0))) (ho : w.heap[c.go]? = some (.cells (fI c.n fun _ => 0).toArray 3 (0, 0)))
    (gT : c.base ≤ c.gT) (gi : c.base ≤ c.gi) (gl : c.base ≤ c.gl) (gn : c.base ≤ c.gn) (go : c.base ≤ c.go)
    (d1 : c.gi ≠ c.gT) (d2 : c.gl ≠ c.gT) (d3 : c.gn ≠ c.gT) (d4 : c.go ≠ c.gT) (d5 : c.gl ≠ c.gi) (d6 : c.gn ≠ c.gi) (d7 : c.go ≠ c.gi) (d8 : c.gn ≠ c.gl) (d9 : c.go ≠ c.gl) (d10 : c.go ≠ c.gn) : KS c (own0 c) w TS.init (.slice none 0 0) (.slice none 0 0) := by
  refine ⟨fun j => ?_, fun b hb => if_pos hb, Nat.le_trans gT (Nat.le_of_lt (blk_lt hT))⟩
  have n1 : ¬ c.gT < c.base := by omega
  have n2 : ¬ c.gi < c.base := by omega
  have n3 : ¬ c.gl < c.base := by omega
  have n4 : ¬ c.gn < c.base := by omega
  have n5 : ¬ c.go < c.base := by omega
  match j with
  | 0 => exact ⟨[c.gT], by simpa [own0, n1] using blk_lt hT, fun w' hw => ⟨rfl, (hw c.gT (by simp)).trans hT⟩⟩
  | 1 => exact ⟨[c.gi], by simpa [own0, n2, d1] using blk_lt hi, fun w' hw => ⟨rfl, (hw c.gi (by simp)).trans hi⟩⟩
  | 2 => exact ⟨[c.gl], by simpa [own0, n3, d2, d5] using blk_lt hl, fun w' hw => ⟨rfl, (hw c.gl (by simp)).trans hl⟩⟩
  | 3 => exact ⟨[c.gn], by simpa [own0, n4, d3, d6, d8] using blk_lt hn, fun w' hw => ⟨rfl, (hw c.gn (by simp)).trans hn⟩⟩
  | 4 => exact ⟨[c.go], by simpa [own0, n5, d4, d7, d9, d10] using blk_lt ho, fun w' hw => ⟨rfl, (hw c.go (by simp)).trans ho⟩⟩
  | 5 => exact ⟨[], by simp, fun w' hw => ⟨rfl, own_nil ..⟩⟩
  | 6 => exact ⟨[], by simp, fun w' hw => ⟨[], rfl, GRow.nil ..⟩⟩
  | j + 7 => exact ⟨[], by simp, fun _ _ => trivial⟩
/-- What Find gives. -/
structure Knots (g : List (List Int)) (w w' : World) (e : Ending) : Prop where
  ex : ∃ kn of An cn go, e = .returned (.tuple #[.slice An kn.length cn, .slice (some ⟨go, 0, none⟩) g.length g.length]) ∧ KnOk g kn of ∧ RRows w' An (knI kn) ∧ kn.length ≤ cn ∧ RI w' (some ⟨go, 0, none⟩) (ofI g.length of)
  below : Below w.heap.size w w'
set_option maxHeartbeats 8000000 in
theorem kFind (g : List (List Int)) (A : Option Addr) (cc : Nat) (w : World) (hr : RRows w A g) (hn : g.length ≤ 1000000) :
    Calls Try.prog 36 #[.slice A g.length cc] w fun e w' => Knots g w w' e := by
  obtain ⟨n, hgn⟩ : ∃ n, n = g.length := ⟨_, rfl⟩
  rw [← hgn] at hn ⊢
  refine enterR (args := [.slice A n cc]) tabOk Try.func36 rfl Try.ntmps36 rfl ?_; conv => whnf
  refine wc_cutR (X := KC) (fun c => [(4, .pointer (some ⟨c.gT, 0, none⟩)), (0, .slice A n cc)])
    (fun c W => Below w.heap.size w W ∧ c.n = n ∧ c.A = A ∧ c.c = cc ∧ c.base = w.heap.size ∧ KS c (own0 c) W TS.init (.slice none 0 0) (.slice none 0 0)) ?_ ?_
  · refine wc_qx [0, 1, 2, 4, 5, 7, 8, 10, 11] 4 13 (stable_Bw _) tabOk mixed (by kernel_rfl) (Below.refl _ _) ?_; (conv => whnf)
    (repeat' (first | ((first | refine wq_add rfl rfl rfl rfl rfl rfl (by omega) (by omega) (run_q tabOk ?_) | refine wq_sub rfl rfl rfl rfl rfl rfl (by omega) (by omega) (run_q tabOk ?_) | refine gs_dt (by first | assumption | omega) ?_ | refine gs_df (by first | assumption | omega) ?_ | refine gs_t (by assumption) ?_ | refine gs_f (by assumption) ?_ | refine gs_d (fun hg => ?_) (fun hg => ?_) | refine gs_n (fun hg => ?_) (fun hg => ?_) | refine gs_nb (fun hg => ?_) (fun hg => ?_) | refine gs_b (fun hg => ?_) (fun hg => ?_)) <;> conv => whnf)))
    intro w1 hC hB1
    clear hB1
    conv => whnf
    repeat' (first | exact True.intro | (refine And.intro ?_ ?_ <;> (conv => whnf)) | (refine wb_mk (m := n) (d := 9) tabOk 3 1 8 rfl rfl rfl rfl rfl rfl rfl rfl (by omega) (by omega) ?_; intro g3 v3 n3; (try (have d3_6 : g3 ≠ g6 := (by (have := blk_lt f6; have := n3.at_; omega)))); (try (have d3_9 : g3 ≠ g9 := (by (have := blk_lt f9; have := n3.at_; omega)))); (try (have d3_12 : g3 ≠ g12 := (by (have := blk_lt f12; have := n3.at_; omega)))); have b3 : w.heap.size ≤ g3 := (by (have := n3.at_; have := hC.size; omega)); have f3 := n3.blk; refine ⟨bup hC n3.below, fun W hW hC => ?_⟩; have f3 := blk_up hW f3; (try (have f6 := blk_up (bup n3.below hW) f6)); (try (have f9 := blk_up (bup n3.below hW) f9)); (try (have f12 := blk_up (bup n3.below hW) f12)); clear hW n3; (conv => whnf)) | (refine wb_mk (m := n) (d := 12) tabOk 3 1 8 rfl rfl rfl rfl rfl rfl rfl rfl (by omega) (by omega) ?_; intro g6 v6 n6; (try (have d3_6 : g3 ≠ g6 := (by (have := blk_lt f3; have := n6.at_; omega)))); (try (have d6_9 : g6 ≠ g9 := (by (have := blk_lt f9; have := n6.at_; omega)))); (try (have d6_12 : g6 ≠ g12 := (by (have := blk_lt f12; have := n6.at_; omega)))); have b6 : w.heap.size ≤ g6 := (by (have := n6.at_; have := hC.size; omega)); have f6 := n6.blk; refine ⟨bup hC n6.below, fun W hW hC => ?_⟩; have f6 := blk_up hW f6; (try (have f3 := blk_up (bup n6.below hW) f3)); (try (have f9 := blk_up (bup n6.below hW) f9)); (try (have f12 := blk_up (bup n6.below hW) f12)); clear hW n6; (conv => whnf)) | (refine wb_mk (m := n) (d := 15) tabOk 4 1 1 rfl rfl rfl rfl rfl rfl rfl rfl (by omega) (by omega) ?_; intro g9 v9 n9; (try (have d3_9 : g3 ≠ g9 := (by (have := blk_lt f3; have := n9.at_; omega)))); (try (have d6_9 : g6 ≠ g9 := (by (have := blk_lt f6; have := n9.at_; omega)))); (try (have d9_12 : g9 ≠ g12 := (by (have := blk_lt f12; have := n9.at_; omega)))); have b9 : w.heap.size ≤ g9 := (by (have := n9.at_; have := hC.size; omega)); have f9 := n9.blk; refine ⟨bup hC n9.below, fun W hW hC => ?_⟩; have f9 := blk_up hW f9; (try (have f3 := blk_up (bup n9.below hW) f3)); (try (have f6 := blk_up (bup n9.below hW) f6)); (try (have f12 := blk_up (bup n9.below hW) f12)); clear hW n9; (conv => whnf)) | (refine wb_mk (m := n) (d := 18) tabOk 3 1 8 rfl rfl rfl rfl rfl rfl rfl rfl (by omega) (by omega) ?_; intro g12 v12 n12; (try (have d3_12 : g3 ≠ g12 := (by (have := blk_lt f3; have := n12.at_; omega)))); (try (have d6_12 : g6 ≠ g12 := (by (have := blk_lt f6; have := n12.at_; omega)))); (try (have d9_12 : g9 ≠ g12 := (by (have := blk_lt f9; have := n12.at_; omega)))); have b12 : w.heap.size ≤ g12 := (by (have := n12.at_; have := hC.size; omega)); have f12 := n12.blk; refine ⟨bup hC n12.below, fun W hW hC => ?_⟩; have f12 := blk_up hW f12; (try (have f3 := blk_up (bup n12.below hW) f3)); (try (have f6 := blk_up (bup n12.below hW) f6)); (try (have f9 := blk_up (bup n12.below hW) f9)); clear hW n12; (conv => whnf)) | (refine wb_P tabOk rfl rfl rfl ?_; refine ⟨hC, fun W hW hC => ?_⟩; (try (have f3 := blk_up (hW) f3)); (try (have f6 := blk_up (hW) f6)); (try (have f9 := blk_up (hW) f9)); (try (have f12 := blk_up (hW) f12)); clear hW; (conv => whnf)))
    all_goals
      refine wl_box rfl rfl rfl rfl rfl rfl ?_
      intro gT wz hz
      refine run_l tabOk ?_
      conv => whnf
      have hgT := hz.at_
      have hsz := hC.size
      have l3 := blk_lt f3
      have l6 := blk_lt f6
      have l9 := blk_lt f9
      have l12 := blk_lt f12
      exact ⟨⟨n, A, cc, gT, g3, g6, g9, g12, w.heap.size⟩, ⟨rfl, rfl, trivial⟩, hz.up hC, rfl, rfl, rfl, rfl, ks0 hz.blk ((hz.old f3).trans (by rw [← fI_zero]; rfl)) ((hz.old f6).trans (by rw [← fI_zero]; rfl)) ((hz.old f9).trans (by rw [← fB_zero]; rfl)) ((hz.old f12).trans (by rw [← fI_zero]; rfl)) (by show w.heap.size ≤ gT; omega) b3 b6 b9 b12
        (by show g3 ≠ gT; omega) (by show g6 ≠ gT; omega) (by show g9 ≠ gT; omega) (by show g12 ≠ gT; omega) d3_6.symm d3_9.symm d3_12.symm d6_9.symm d6_12.symm d9_12.symm⟩
  · rintro ⟨n', A', cc', gT, gi, gl, gn, go, base⟩ G w1 ⟨hB1, rfl, rfl, rfl, rfl, hK⟩
    conv => whnf
    (repeat' (first | ((first | refine wl_add rfl rfl rfl rfl rfl rfl (by omega) (by omega) (run_l tabOk ?_) | refine wl_sub rfl rfl rfl rfl rfl rfl (by omega) (by omega) (run_l tabOk ?_) | refine gs_dt (by first | assumption | omega) ?_ | refine gs_df (by first | assumption | omega) ?_ | refine gs_t (by assumption) ?_ | refine gs_f (by assumption) ?_ | refine gs_d (fun hg => ?_) (fun hg => ?_) | refine gs_n (fun hg => ?_) (fun hg => ?_) | refine gs_nb (fun hg => ?_) (fun hg => ?_) | refine gs_b (fun hg => ?_) (fun hg => ?_)) <;> conv => whnf) | refine fin1 rfl rfl ?_))
    have hlow0 := hK.low
    have hsz0 := hK.sz
    obtain ⟨c, hc⟩ : ∃ c, c = KC.mk n' A' cc' gT gi gl gn go w.heap.size := ⟨_, rfl⟩
    rw [← hc] at hK
    have hcn : c.n = n' := by rw [hc]
    have hcg : c.n = g.length := by rw [hcn]; exact hgn
    have hcT : c.gT = gT := by rw [hc]
    have hcb : c.base = w.heap.size := by rw [hc]
    have hcA : c.A = A' := by rw [hc]
    have hcc : c.c = cc' := by rw [hc]
    refine lp_loop tabOk (X := Nat × TS) (fun x => [(4, .pointer (some ⟨c.gT, 0, none⟩)), (22, .int .i64 (n' : Int)), (23, .int .i64 (x.1 : Int))]) (fun x wr => x.1 ≤ n' ∧ Below w.heap.size w wr ∧ (∃ O vk vn, KS c O wr x.2 vk vn) ∧ TInv g x.2 ∧ x.2.path = [] ∧ x.2.cnt = vis g.length x.2.idx ∧ ∀ y, y < x.1 → 0 < x.2.idx y) (fun x => n' - x.1) (0, TS.init) ⟨by rw [hcT]; rfl, rfl, rfl, trivial⟩ ⟨by omega, hB1, ⟨_, _, _, hK⟩, TInv.init g, rfl, (vis_zero _).symm, fun y hy => absurd hy (Nat.not_lt_zero y)⟩ ?_
    clear hB1 hK
    rintro ⟨i, s⟩ G2 wr ⟨hi, hB, ⟨O, vk, vn, hK⟩, hI, hp, hcnt, hall⟩
    simp only at hi hB hK hI hp hcnt hall
    conv => whnf
    have hbox := hK.box.1
    unfold kbox at hbox
    by_cases hlt : i < n'
    · have hcell : wr.cell? ((⟨c.gi, 0, none⟩ : Addr).add (i * 1)) = some (.int .i64 (s.idx i : Int)) := by
        rw [Nat.mul_one, add_zero]
        exact cell_blk hK.bi.1 (by simpa using fI_get (by omega))
      by_cases h0 : s.idx i = 0
      · (repeat' (first | (refine wl_Lg tabOk hbox rfl rfl rfl rfl rfl rfl rfl (run_l tabOk ?_); conv => whnf) | (refine wl_L tabOk rfl rfl rfl rfl rfl rfl hcell (run_l tabOk ?_); conv => whnf) | (refine wl_Xn tabOk 3 1 rfl rfl rfl rfl rfl rfl rfl (by omega) (run_l tabOk ?_); conv => whnf) | ((first | refine wl_add rfl rfl rfl rfl rfl rfl (by omega) (by omega) (run_l tabOk ?_) | refine wl_sub rfl rfl rfl rfl rfl rfl (by omega) (by omega) (run_l tabOk ?_) | refine gs_dt (by first | assumption | omega) ?_ | refine gs_df (by first | assumption | omega) ?_ | refine gs_t (by assumption) ?_ | refine gs_f (by assumption) ?_ | refine gs_d (fun hg => ?_) (fun hg => ?_) | refine gs_n (fun hg => ?_) (fun hg => ?_) | refine gs_nb (fun hg => ?_) (fun hg => ?_) | refine gs_b (fun hg => ?_) (fun hg => ?_)) <;> conv => whnf) | refine fin1 rfl rfl ?_))
        refine wl_C fn52 (kSearch hK hI hp hcg hcnt (fun w' hB' => by rw [hcA]; exact hr.up stays_Ints (hB.trans (by rw [hcb] at hB'; exact hB'))) (by omega) i (by omega) h0) rfl rfl rfl rfl rfl rfl rfl ?_
        rintro _ w5 ⟨rfl, O1, vk1, vn1, s1, hK1, hst1, hS1, hp1⟩
        refine ⟨_, rfl, run_l tabOk ?_⟩
        conv => whnf
        (repeat' (first | ((first | refine wl_add rfl rfl rfl rfl rfl rfl (by omega) (by omega) (run_l tabOk ?_) | refine wl_sub rfl rfl rfl rfl rfl rfl (by omega) (by omega) (run_l tabOk ?_) | refine gs_dt (by first | assumption | omega) ?_ | refine gs_df (by first | assumption | omega) ?_ | refine gs_t (by assumption) ?_ | refine gs_f (by assumption) ?_ | refine gs_d (fun hg => ?_) (fun hg => ?_) | refine gs_n (fun hg => ?_) (fun hg => ?_) | refine gs_nb (fun hg => ?_) (fun hg => ?_) | refine gs_b (fun hg => ?_) (fun hg => ?_)) <;> conv => whnf) | refine fin1 rfl rfl ?_))
        refine ⟨(i + 1, s1), ⟨rfl, rfl, rfl, trivial⟩, ⟨by omega, ?_, ⟨O1, vk1, vn1, hK1⟩, hS1.inv, hp1, hS1.cnt, fun y hy => ?_⟩, by omega⟩
        · have := hst1.below hK.low hK.sz
          rw [hcb] at this
          exact hB.trans this
        · have hy : y < i + 1 := hy
          by_cases e : y = i
          · rw [e]; exact hS1.at_
          · exact hS1.le y (hall y (by omega))
      · (repeat' (first | (refine wl_Lg tabOk hbox rfl rfl rfl rfl rfl rfl rfl (run_l tabOk ?_); conv => whnf) | (refine wl_L tabOk rfl rfl rfl rfl rfl rfl hcell (run_l tabOk ?_); conv => whnf) | (refine wl_Xn tabOk 3 1 rfl rfl rfl rfl rfl rfl rfl (by omega) (run_l tabOk ?_); conv => whnf) | ((first | refine wl_add rfl rfl rfl rfl rfl rfl (by omega) (by omega) (run_l tabOk ?_) | refine wl_sub rfl rfl rfl rfl rfl rfl (by omega) (by omega) (run_l tabOk ?_) | refine gs_dt (by first | assumption | omega) ?_ | refine gs_df (by first | assumption | omega) ?_ | refine gs_t (by assumption) ?_ | refine gs_f (by assumption) ?_ | refine gs_d (fun hg => ?_) (fun hg => ?_) | refine gs_n (fun hg => ?_) (fun hg => ?_) | refine gs_nb (fun hg => ?_) (fun hg => ?_) | refine gs_b (fun hg => ?_) (fun hg => ?_)) <;> conv => whnf) | refine fin1 rfl rfl ?_))
        exact ⟨(i + 1, s), ⟨rfl, rfl, rfl, trivial⟩, ⟨by omega, hB, ⟨O, vk, vn, hK⟩, hI, hp, hcnt, fun y hy => by
          have hy : y < i + 1 := hy
          show 0 < s.idx y
          by_cases e : y = i
          · rw [e]; omega
          · exact hall y (by omega)⟩, by omega⟩
    · obtain ⟨bs, hkg, _, _⟩ := hK.knots
      obtain ⟨An, cn, evn, hcn2, hrk⟩ := hkg.row
      subst evn
      have hkl : (knI s.kn).length = s.kn.length := by simp [knI]
      (repeat' (first | ((first | refine wl_add rfl rfl rfl rfl rfl rfl (by omega) (by omega) (run_l tabOk ?_) | refine wl_sub rfl rfl rfl rfl rfl rfl (by omega) (by omega) (run_l tabOk ?_) | refine gs_dt (by first | assumption | omega) ?_ | refine gs_df (by first | assumption | omega) ?_ | refine gs_t (by assumption) ?_ | refine gs_f (by assumption) ?_ | refine gs_d (fun hg => ?_) (fun hg => ?_) | refine gs_n (fun hg => ?_) (fun hg => ?_) | refine gs_nb (fun hg => ?_) (fun hg => ?_) | refine gs_b (fun hg => ?_) (fun hg => ?_)) <;> conv => whnf) | refine fin1 rfl rfl ?_))
      refine wc_qr tabOk mixed (by kernel_rfl) ?_; conv => whnf
      (repeat' (first | (refine wq_Lg tabOk hbox rfl rfl rfl rfl rfl rfl rfl (run_q tabOk ?_); conv => whnf) | ((first | refine wq_add rfl rfl rfl rfl rfl rfl (by omega) (by omega) (run_q tabOk ?_) | refine wq_sub rfl rfl rfl rfl rfl rfl (by omega) (by omega) (run_q tabOk ?_) | refine gs_dt (by first | assumption | omega) ?_ | refine gs_df (by first | assumption | omega) ?_ | refine gs_t (by assumption) ?_ | refine gs_f (by assumption) ?_ | refine gs_d (fun hg => ?_) (fun hg => ?_) | refine gs_n (fun hg => ?_) (fun hg => ?_) | refine gs_nb (fun hg => ?_) (fun hg => ?_) | refine gs_b (fun hg => ?_) (fun hg => ?_)) <;> conv => whnf)))
      intro w6 hB6
      conv => whnf
      have hin : i = g.length := by omega
      have hD := hI.done hp (fun v hv => hall v (by omega))
      have hof := hK.bo.1
      rw [fI_vi] at hof
      have hofR := row_of_blk hof (elems_viN (w := wr) (fun x hx => by
        obtain ⟨v, hv, rfl⟩ := List.mem_map.1 hx
        have := (hD.at_ v (by have := List.mem_range.1 hv; omega)).1
        have := hI.kn_le
        omega)) (by simp; omega)
      refine fin2 rfl rfl rfl ⟨⟨s.kn, s.of, An, cn, c.go, ?_, hD, hrk.up stays_Ints hB6, by omega, ?_⟩, bup hB hB6⟩
      · rw [hkl, hcg]
      · have e : ofI g.length s.of = ((List.range c.n).map s.of).map fun (x : Nat) => (x : Int) := by simp [ofI, hcg, List.map_map, Function.comp_def]
        rw [e]
        exact hofR.up (stays_I _) hB6
end Go.Proofs.Ytjggjhgbobmkhaa

/- The example of the document's chapter on knots. -/
namespace Go.Proofs.Ytjggjhgbobmkhaa
open Go.RowKit
set_option linter.unusedVariables false
set_option linter.unusedSimpArgs false
set_option maxRecDepth 100000
theorem knI_len (kn : List (List Nat)) : (knI kn).length = kn.length := by simp [knI]
theorem knI_at {kn : List (List Nat)} {k : Nat} (h : k < kn.length) : (knI kn)[k]! = (kn[k]!).map fun (x : Nat) => (x : Int) := by
  rw [getElem!_pos _ k (by rw [knI_len]; exact h), getElem!_pos kn k h]
  simp [knI]
theorem castI_at {l : List Nat} {i : Nat} (h : i < l.length) : (l.map fun (x : Nat) => (x : Int))[i]! = (l[i]! : Int) := by
  rw [getElem!_pos _ i (by simpa using h), getElem!_pos l i h]
  simp
end Go.Proofs.Ytjggjhgbobmkhaa

/- weathervaneref12.Right: what it answers. -/
namespace Go.Proofs.Ytjggjhgbobmkhaa
open Go.RowKit
set_option linter.unusedVariables false
set_option linter.unusedSimpArgs false
set_option maxRecDepth 100000
set_option maxHeartbeats 1000000
end Go.Proofs.Ytjggjhgbobmkhaa
