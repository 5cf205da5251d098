/- least.rule: a constraint is kept. -/
import Derived.Test.YtkmnhkfgjadppaaO23
import Derived.Test.YtkmnhkfgjadppaaU0
namespace Go.Proofs.Ytkmnhkfgjadppaa
open Go.RowKit
set_option linter.unusedVariables false
set_option linter.unusedSimpArgs false
set_option maxRecDepth 100000
theorem stable_Kw (rb : List Nat) (w : World) : Stable (Keeps rb w) := fun _ _ h h' => h.up h'
theorem setT_same {n c : Nat} {M : Mat} (h : Shape n c M) {i o : Nat} (hi : i < n) (ho : o < c) (hy : mg M i o = true) : setT M i o = M :=
  mat_ext (setT_shape h hi) h fun j q _ _ => by
    rw [mg_setT h hi ho]
    split
    · rename_i e; obtain ⟨rfl, rfl⟩ := e; exact hy.symm
    · rfl
structure GoodC (n nc : Nat) (c : Con) : Prop where
  k : 1 ≤ c.k ∧ c.k ≤ 5
  a : c.a < n
  a0 : c.k < 5 → 0 ≤ c.a
  b0 : 0 ≤ c.b
  b1 : c.k = 1 → c.b < nc
  b : 2 ≤ c.k → c.b < n
  args : ∀ j, j < c.args.length → c.args[j]! < n
theorem goodC {n nc : Nat} {c : Con} (h : conOk n nc c = true) : GoodC n nc c := by
  simp only [conOk, Bool.and_eq_true, decide_eq_true_eq, inR, List.all_eq_true] at h
  obtain ⟨⟨⟨⟨⟨⟨h1, h2⟩, h3, h4⟩, h5, h6⟩, _⟩, _⟩, h7⟩ := h
  refine ⟨⟨h1, h2⟩, h4, fun hk => by rw [if_neg (by omega)] at h3; exact h3, h5, fun hk => by rw [if_pos hk] at h6; exact h6, fun hk => by rw [if_neg (by omega)] at h6; exact h6, fun j hj => (h7 _ (mem_get hj)).2⟩
structure GoodX (n : Nat) (x : Cell) : Prop where
  v0 : 0 ≤ x.v
  v : x.v < n
  args0 : ∀ j, j < x.args.length → 0 ≤ x.args[j]!
  args : ∀ j, j < x.args.length → x.args[j]! < n
theorem goodX {n : Nat} {x : Cell} (h : cellOk n x = true) : GoodX n x := by
  simp only [cellOk, Bool.and_eq_true, decide_eq_true_eq, inR, List.all_eq_true] at h
  exact ⟨h.1.1.1.1, h.1.1.1.2, fun j hj => (h.2 _ (mem_get hj)).1, fun j hj => (h.2 _ (mem_get hj)).2⟩
theorem grow_first {α : Type} [Inhabited α] {sz : Nat} {d : Dec α} {e : TypeId} {base : Nat} {w w1 : World} {v : Value} {zs : List α} {news : List Value} (hel : Elems sz d w news zs) (hd : ∀ (w w' : World) cs x, d w cs x → d w' cs x) (hown : w1.ownsRow base e sz v (0 + zs.length) ([] ++ news)) : GRow sz d e base w1 v zs [] := by
  rw [Nat.zero_add, List.nil_append] at hown
  exact ⟨⟨news, hown, fun w' _ => ⟨hel.1, fun i hi => hd _ _ _ _ (hel.2 i hi)⟩⟩, by simp, by simp⟩
/-- The k first objects are through. -/
def objsTo (xs : List Cell) (c : Con) (k : Nat) (M : Mat) : Prop := ∀ o, o < k → mg M (srcOf c) o = true → objP c xs[o]! M
set_option maxHeartbeats 4000000 in
theorem leastRule (xs : List Cell) (ys : List Con) (c : Con) (M : Mat) (rb : List Nat) (n : Nat) (base : Nat) (A A1 A2 B : Option Addr) (cap c1 c2 bc : Nat) (w0 w : World) (hM : BMat base w A M rb n xs.length) (hw : Below w0.heap.size w0 w) (hbase : w0.heap.size ≤ base)
    (h1 : RCells w0 A1 xs) (hB : RI w0 B c.args) (hc : GoodC n xs.length c) (hx : ∀ o, o < xs.length → GoodX n xs[o]!) (hsm : xs.length ≤ 16384) :
    Calls Try.prog 22 #[.agg #[.int .i64 n, .slice A1 xs.length c1, .slice A2 ys.length c2], .slice A n cap, .agg #[.int .u8 c.k, .int .i64 c.a, .int .i64 c.b, .slice B c.args.length bc]] w fun e w' => ∃ M' b, e = .returned (.bool b) ∧ BMat base w' A M' rb n xs.length ∧ Keeps rb w w' ∧ Tr n xs.length (ruleP xs c) (ruleP xs c M) M M' b := by
  have hck := hc.k
  have hca := hc.a
  have hca0 := hc.a0
  have hcb0 := hc.b0
  have hcb1 := hc.b1
  have hcb := hc.b
  refine enterR (args := [.agg #[.int .i64 n, .slice A1 xs.length c1, .slice A2 ys.length c2], .slice A n cap, .agg #[.int .u8 c.k, .int .i64 c.a, .int .i64 c.b, .slice B c.args.length bc]]) tabOk Try.func22 rfl Try.ntmps22 rfl ?_; conv => whnf
  refine wl_box rfl rfl rfl rfl rfl rfl ?_
  intro g1 w1 hn1
  refine run_l tabOk ?_
  conv => whnf
  refine wl_box rfl rfl rfl rfl rfl rfl ?_
  intro g2 w2 hn2
  have hb1 := hn2.old hn1.blk
  have hb2 := hn2.blk
  have hB2 := hn2.up hn1.below
  have hM2 := hM.up hB2
  have hr1 : g1 ∉ rb := not_mem_new hM (by have := hn1.at_; omega)
  have hr2 : g2 ∉ rb := not_mem_new hM (by have := hn1.at_; have := hn1.size; have := hn2.at_; omega)
  have hw2 := bup hw hB2
  have hK2 : Keeps rb w w2 := Keeps.of hB2
  clear hn1 hn2
  refine run_l tabOk ?_
  conv => whnf
  (repeat' (first | (refine wl_Lg tabOk hb2 rfl rfl rfl rfl rfl rfl rfl (run_l tabOk ?_); conv => whnf) | (refine wl_add rfl rfl rfl rfl rfl rfl (by omega) (by omega) (run_l tabOk ?_); conv => whnf) | (refine wl_sub rfl rfl rfl rfl rfl rfl (by omega) (by omega) (run_l tabOk ?_); conv => whnf) | (refine wl_cvA tabOk rfl rfl rfl (by simp only [inK]; omega) rfl rfl rfl (run_l tabOk ?_); conv => whnf) | (refine wl_cvB tabOk rfl rfl rfl rfl rfl rfl (run_l tabOk ?_); conv => whnf) | (refine wl_rem rfl rfl rfl rfl rfl rfl (by omega) (by omega) (fun r hr hr0 hr1 hr2 => run_l tabOk ?_); conv => whnf) | (refine wl_quo rfl rfl rfl rfl rfl rfl (by omega) (by omega) (by simp only [inK]; omega) (run_l tabOk ?_); conv => whnf) | (refine wl_mul rfl rfl rfl rfl rfl rfl (by omega) (by omega) (run_l tabOk ?_); conv => whnf) | (refine gs_dt (by first | assumption | omega) ?_; conv => whnf) | (refine gs_df (by first | assumption | omega) ?_; conv => whnf) | (refine gs_t (by assumption) ?_; conv => whnf) | (refine gs_f (by assumption) ?_; conv => whnf) | (refine gs_d (fun hg => ?_) (fun hg => ?_) <;> conv => whnf) | (refine gs_n (fun hg => ?_) (fun hg => ?_) <;> conv => whnf) | (refine gs_nb (fun hg => ?_) (fun hg => ?_) <;> conv => whnf) | (refine gs_b (fun hg => ?_) (fun hg => ?_) <;> conv => whnf) | refine fin1 rfl rfl ?_))
  · -- an object is in a variable
    have hk1 : c.k = 1 := by assumption
    have hbn := hcb1 hk1
    have ha0 := hca0 (by omega)
    obtain ⟨ad, rfl, hca1⟩ := hM2.cells (i := c.a.toNat) (by omega)
    have hbit := hM2.bit (i := c.a.toNat) (o := c.b.toNat) (by omega) (by omega)
    refine wc_qr tabOk mixed (by kernel_rfl) ?_; conv => whnf
    (repeat' (first | (refine wq_Lg tabOk hb2 rfl rfl rfl rfl rfl rfl rfl (run_q tabOk ?_); conv => whnf) | (refine wq_L tabOk rfl rfl rfl rfl rfl rfl hca1 (run_q tabOk ?_); conv => whnf) | (refine wq_L tabOk rfl rfl rfl rfl rfl rfl hbit (run_q tabOk ?_); conv => whnf) | (refine wq_X tabOk 35 1 rfl rfl rfl rfl rfl rfl rfl (by omega) (by omega) (run_q tabOk ?_); conv => whnf) | (refine wq_X tabOk 4 1 rfl rfl rfl rfl rfl rfl rfl (by omega) (by omega) (run_q tabOk ?_); conv => whnf) | (refine wq_add rfl rfl rfl rfl rfl rfl (by omega) (by omega) (run_q tabOk ?_); conv => whnf) | (refine wq_sub rfl rfl rfl rfl rfl rfl (by omega) (by omega) (run_q tabOk ?_); conv => whnf) | (refine wq_cvA tabOk rfl rfl rfl (by simp only [inK]; omega) rfl rfl rfl (run_q tabOk ?_); conv => whnf) | (refine wq_cvB tabOk rfl rfl rfl rfl rfl rfl (run_q tabOk ?_); conv => whnf) | (refine wq_rem rfl rfl rfl rfl rfl rfl (by omega) (by omega) (fun r hr hr0 hr1 hr2 => run_q tabOk ?_); conv => whnf) | (refine wq_quo rfl rfl rfl rfl rfl rfl (by omega) (by omega) (by simp only [inK]; omega) (run_q tabOk ?_); conv => whnf) | (refine wq_mul rfl rfl rfl rfl rfl rfl (by omega) (by omega) (run_q tabOk ?_); conv => whnf) | (refine gs_dt (by first | assumption | omega) ?_; conv => whnf) | (refine gs_df (by first | assumption | omega) ?_; conv => whnf) | (refine gs_t (by assumption) ?_; conv => whnf) | (refine gs_f (by assumption) ?_; conv => whnf) | (refine gs_d (fun hg => ?_) (fun hg => ?_) <;> conv => whnf) | (refine gs_n (fun hg => ?_) (fun hg => ?_) <;> conv => whnf) | (refine gs_nb (fun hg => ?_) (fun hg => ?_) <;> conv => whnf) | (refine gs_b (fun hg => ?_) (fun hg => ?_) <;> conv => whnf)))
    intro w3 hB3
    conv => whnf
    have hM3 := hM2.up hB3
    have hb2 := blk_up hB3 hb2
    have hcell := hca1
    refine wc_qx [0, 1, 2, 3, 4, 5, 6] 0 7 (stable_Bw _) tabOk mixed (by kernel_rfl) (Below.refl _ _) ?_; (conv => whnf)
    (repeat' (first | (refine wq_Lg tabOk hb2 rfl rfl rfl rfl rfl rfl rfl (run_q tabOk ?_); conv => whnf) | (refine wq_L tabOk rfl rfl rfl rfl rfl rfl (cell_up hB3 hca1) (run_q tabOk ?_); conv => whnf) | (refine wq_X tabOk 35 1 rfl rfl rfl rfl rfl rfl rfl (by omega) (by omega) (run_q tabOk ?_); conv => whnf) | (refine wq_X tabOk 4 1 rfl rfl rfl rfl rfl rfl rfl (by omega) (by omega) (run_q tabOk ?_); conv => whnf) | (refine wq_add rfl rfl rfl rfl rfl rfl (by omega) (by omega) (run_q tabOk ?_); conv => whnf) | (refine wq_sub rfl rfl rfl rfl rfl rfl (by omega) (by omega) (run_q tabOk ?_); conv => whnf) | (refine wq_cvA tabOk rfl rfl rfl (by simp only [inK]; omega) rfl rfl rfl (run_q tabOk ?_); conv => whnf) | (refine wq_cvB tabOk rfl rfl rfl rfl rfl rfl (run_q tabOk ?_); conv => whnf) | (refine wq_rem rfl rfl rfl rfl rfl rfl (by omega) (by omega) (fun r hr hr0 hr1 hr2 => run_q tabOk ?_); conv => whnf) | (refine wq_quo rfl rfl rfl rfl rfl rfl (by omega) (by omega) (by simp only [inK]; omega) (run_q tabOk ?_); conv => whnf) | (refine wq_mul rfl rfl rfl rfl rfl rfl (by omega) (by omega) (run_q tabOk ?_); conv => whnf) | (refine gs_dt (by first | assumption | omega) ?_; conv => whnf) | (refine gs_df (by first | assumption | omega) ?_; conv => whnf) | (refine gs_t (by assumption) ?_; conv => whnf) | (refine gs_f (by assumption) ?_; conv => whnf) | (refine gs_d (fun hg => ?_) (fun hg => ?_) <;> conv => whnf) | (refine gs_n (fun hg => ?_) (fun hg => ?_) <;> conv => whnf) | (refine gs_nb (fun hg => ?_) (fun hg => ?_) <;> conv => whnf) | (refine gs_b (fun hg => ?_) (fun hg => ?_) <;> conv => whnf)))
    intro w4 hC hB4
    conv => whnf
    (repeat' (first | (refine wl_X tabOk 4 1 rfl rfl rfl rfl rfl rfl rfl (by omega) (by omega) (run_l tabOk ?_); conv => whnf) | (refine wl_add rfl rfl rfl rfl rfl rfl (by omega) (by omega) (run_l tabOk ?_); conv => whnf) | (refine wl_sub rfl rfl rfl rfl rfl rfl (by omega) (by omega) (run_l tabOk ?_); conv => whnf) | (refine wl_cvA tabOk rfl rfl rfl (by simp only [inK]; omega) rfl rfl rfl (run_l tabOk ?_); conv => whnf) | (refine wl_cvB tabOk rfl rfl rfl rfl rfl rfl (run_l tabOk ?_); conv => whnf) | (refine wl_rem rfl rfl rfl rfl rfl rfl (by omega) (by omega) (fun r hr hr0 hr1 hr2 => run_l tabOk ?_); conv => whnf) | (refine wl_quo rfl rfl rfl rfl rfl rfl (by omega) (by omega) (by simp only [inK]; omega) (run_l tabOk ?_); conv => whnf) | (refine wl_mul rfl rfl rfl rfl rfl rfl (by omega) (by omega) (run_l tabOk ?_); conv => whnf) | (refine gs_dt (by first | assumption | omega) ?_; conv => whnf) | (refine gs_df (by first | assumption | omega) ?_; conv => whnf) | (refine gs_t (by assumption) ?_; conv => whnf) | (refine gs_f (by assumption) ?_; conv => whnf) | (refine gs_d (fun hg => ?_) (fun hg => ?_) <;> conv => whnf) | (refine gs_n (fun hg => ?_) (fun hg => ?_) <;> conv => whnf) | (refine gs_nb (fun hg => ?_) (fun hg => ?_) <;> conv => whnf) | (refine gs_b (fun hg => ?_) (fun hg => ?_) <;> conv => whnf) | refine fin1 rfl rfl ?_))
    have hM4 := hM3.up hB4
    refine wl_Se (j := c.b.toNat * 1) (v := .bool true) tabOk (hM4.blk c.a.toNat (by omega)) rfl rfl rfl rfl rfl rfl (by unfold vb; rw [List.length_map, hM4.sh.cols _ (by omega)]; omega) rfl rfl ?_
    intro w5 hp5
    rw [Nat.mul_one] at hp5
    have hM5 := hM4.put (by omega) hp5
    have hK5 : Keeps rb w w5 := ((hK2.up hB3).up hB4).put hp5 (hM4.mem (by omega))
    refine run_l tabOk ?_
    conv => whnf
    (repeat' (first | (refine wl_add rfl rfl rfl rfl rfl rfl (by omega) (by omega) (run_l tabOk ?_); conv => whnf) | (refine wl_sub rfl rfl rfl rfl rfl rfl (by omega) (by omega) (run_l tabOk ?_); conv => whnf) | (refine wl_cvA tabOk rfl rfl rfl (by simp only [inK]; omega) rfl rfl rfl (run_l tabOk ?_); conv => whnf) | (refine wl_cvB tabOk rfl rfl rfl rfl rfl rfl (run_l tabOk ?_); conv => whnf) | (refine wl_rem rfl rfl rfl rfl rfl rfl (by omega) (by omega) (fun r hr hr0 hr1 hr2 => run_l tabOk ?_); conv => whnf) | (refine wl_quo rfl rfl rfl rfl rfl rfl (by omega) (by omega) (by simp only [inK]; omega) (run_l tabOk ?_); conv => whnf) | (refine wl_mul rfl rfl rfl rfl rfl rfl (by omega) (by omega) (run_l tabOk ?_); conv => whnf) | (refine gs_dt (by first | assumption | omega) ?_; conv => whnf) | (refine gs_df (by first | assumption | omega) ?_; conv => whnf) | (refine gs_t (by assumption) ?_; conv => whnf) | (refine gs_f (by assumption) ?_; conv => whnf) | (refine gs_d (fun hg => ?_) (fun hg => ?_) <;> conv => whnf) | (refine gs_n (fun hg => ?_) (fun hg => ?_) <;> conv => whnf) | (refine gs_nb (fun hg => ?_) (fun hg => ?_) <;> conv => whnf) | (refine gs_b (fun hg => ?_) (fun hg => ?_) <;> conv => whnf) | refine fin1 rfl rfl ?_))
    refine ⟨setT M c.a.toNat c.b.toNat, !mg M c.a.toNat c.b.toNat, rfl, hM5, hK5, ?_⟩
    cases hm : mg M c.a.toNat c.b.toNat with
    | false => exact Tr.one hM.sh (by omega) (by omega) hm fun N _ h => h.1 hk1
    | true =>
      rw [setT_same hM.sh (by omega) (by omega) hm]
      exact Tr.start hM.sh ⟨fun _ => hm, fun h => by omega, fun h => absurd hk1 h⟩
  · -- a copy
    have hk2 : c.k = 2 := by assumption
    have hbn := hcb (by omega)
    refine wl_C fn30 (leastAdd M rb n xs.length base A cap c.a c.b w2 hM2 (by omega) (by omega) (by omega)) rfl rfl rfl rfl rfl rfl rfl ?_
    rintro _ w3 ⟨M', b, rfl, hM3, hK3, hT⟩
    refine ⟨_, rfl, run_l tabOk ?_⟩
    conv => whnf
    (repeat' (first | (refine wl_add rfl rfl rfl rfl rfl rfl (by omega) (by omega) (run_l tabOk ?_); conv => whnf) | (refine wl_sub rfl rfl rfl rfl rfl rfl (by omega) (by omega) (run_l tabOk ?_); conv => whnf) | (refine wl_cvA tabOk rfl rfl rfl (by simp only [inK]; omega) rfl rfl rfl (run_l tabOk ?_); conv => whnf) | (refine wl_cvB tabOk rfl rfl rfl rfl rfl rfl (run_l tabOk ?_); conv => whnf) | (refine wl_rem rfl rfl rfl rfl rfl rfl (by omega) (by omega) (fun r hr hr0 hr1 hr2 => run_l tabOk ?_); conv => whnf) | (refine wl_quo rfl rfl rfl rfl rfl rfl (by omega) (by omega) (by simp only [inK]; omega) (run_l tabOk ?_); conv => whnf) | (refine wl_mul rfl rfl rfl rfl rfl rfl (by omega) (by omega) (run_l tabOk ?_); conv => whnf) | (refine gs_dt (by first | assumption | omega) ?_; conv => whnf) | (refine gs_df (by first | assumption | omega) ?_; conv => whnf) | (refine gs_t (by assumption) ?_; conv => whnf) | (refine gs_f (by assumption) ?_; conv => whnf) | (refine gs_d (fun hg => ?_) (fun hg => ?_) <;> conv => whnf) | (refine gs_n (fun hg => ?_) (fun hg => ?_) <;> conv => whnf) | (refine gs_nb (fun hg => ?_) (fun hg => ?_) <;> conv => whnf) | (refine gs_b (fun hg => ?_) (fun hg => ?_) <;> conv => whnf) | refine fin1 rfl rfl ?_))
    exact ⟨M', b, rfl, hM3, hK2.trans hK3, hT.told (fun N _ h => h.2.1 hk2) (fun q => ⟨fun h => by omega, fun _ => q, fun _ h => absurd hk2 h⟩)⟩
  · have hkn1 : ¬ c.k = 1 := by assumption
    have hkn2 : ¬ c.k = 2 := by assumption
    have hp0 : 0 ≤ c.a ∧ c.a < n := by have := hca0 (by omega); omega
    have hsrc : srcOf c = c.a.toNat := by simp only [srcOf]; rw [if_pos (by assumption)]
    have hl : M[c.a.toNat]!.length = xs.length := hM2.sh.cols _ (by omega)
    obtain ⟨ad, rfl, hcp⟩ := hM2.cells (i := c.a.toNat) (by omega)
    (repeat' (first | (refine wl_L tabOk rfl rfl rfl rfl rfl rfl hcp (run_l tabOk ?_); conv => whnf) | (refine wl_X tabOk 35 1 rfl rfl rfl rfl rfl rfl rfl (by omega) (by omega) (run_l tabOk ?_); conv => whnf) | (refine wl_add rfl rfl rfl rfl rfl rfl (by omega) (by omega) (run_l tabOk ?_); conv => whnf) | (refine wl_sub rfl rfl rfl rfl rfl rfl (by omega) (by omega) (run_l tabOk ?_); conv => whnf) | (refine wl_cvA tabOk rfl rfl rfl (by simp only [inK]; omega) rfl rfl rfl (run_l tabOk ?_); conv => whnf) | (refine wl_cvB tabOk rfl rfl rfl rfl rfl rfl (run_l tabOk ?_); conv => whnf) | (refine wl_rem rfl rfl rfl rfl rfl rfl (by omega) (by omega) (fun r hr hr0 hr1 hr2 => run_l tabOk ?_); conv => whnf) | (refine wl_quo rfl rfl rfl rfl rfl rfl (by omega) (by omega) (by simp only [inK]; omega) (run_l tabOk ?_); conv => whnf) | (refine wl_mul rfl rfl rfl rfl rfl rfl (by omega) (by omega) (run_l tabOk ?_); conv => whnf) | (refine gs_dt (by first | assumption | omega) ?_; conv => whnf) | (refine gs_df (by first | assumption | omega) ?_; conv => whnf) | (refine gs_t (by assumption) ?_; conv => whnf) | (refine gs_f (by assumption) ?_; conv => whnf) | (refine gs_d (fun hg => ?_) (fun hg => ?_) <;> conv => whnf) | (refine gs_n (fun hg => ?_) (fun hg => ?_) <;> conv => whnf) | (refine gs_nb (fun hg => ?_) (fun hg => ?_) <;> conv => whnf) | (refine gs_b (fun hg => ?_) (fun hg => ?_) <;> conv => whnf) | refine fin1 rfl rfl ?_))
    refine wl_apr tabOk 4 1 1 (own_nil _ w2.heap.size _ _) (rowB_of_blk (hM2.blk c.a.toNat (by omega)) (by rw [hl]; omega)) one_B rfl rfl rfl rfl rfl (by rw [hl]; rfl) rfl rfl rfl rfl rfl (by rw [hl]; omega) (by rw [hl]; omega) (Nat.le_refl _) ?_
    intro E ec w3 news hel hown hgr hob
    have hgrow : GRow 1 dB 4 w2.heap.size w3 (.slice E (0 + M[c.a.toNat]!.length) ec) M[c.a.toNat]! [] := grow_first hel (fun _ _ _ _ h => h) hown
    have hB3 : Below w2.heap.size w2 w3 := below_of_grown hgr
    have hEr : ∀ g, (Value.slice E (0 + M[c.a.toNat]!.length) ec).ownBlock = some g → g ∉ rb := fun g hg hm => by have := (hgrow.olt g hg).1; have := (hM2.ge g hm).2; omega
    have hElt := hgrow.olt
    simp only [hl, Nat.zero_add] at hgrow hEr hElt ⊢
    have hM3 := hM2.up hB3
    have hK3 := hK2.up hB3
    have hb1 := blk_up hB3 hb1
    have hb2 := blk_up hB3 hb2
    refine run_l tabOk ?_
    conv => whnf
    refine lp_loop tabOk (X := Nat × Mat × Bool) (fun y => [(1, .slice (some ad) n cap), (3, .pointer (some ⟨g1, 0, none⟩)), (5, .pointer (some ⟨g2, 0, none⟩)), (9, .bool y.2.2), (54, .slice E xs.length ec), (55, .int .i64 xs.length), (56, .int .i64 y.1)])
      (fun y wr => y.1 ≤ xs.length ∧ BMat base wr (some ad) y.2.1 rb n xs.length ∧ Keeps rb w3 wr ∧ Tr n xs.length (ruleP xs c) (objsTo xs c y.1 M) M y.2.1 y.2.2) (fun y => xs.length - y.1) (0, M, false) ⟨rfl, rfl, rfl, rfl, rfl, rfl, rfl, trivial⟩ ⟨by simp, hM3, Keeps.refl _ _, Tr.start hM.sh fun o ho => by simp at ho⟩ ?_
    rintro ⟨k, Mk, bk⟩ G wr ⟨hk, hMr, hKr, hT⟩
    simp only at hk hMr hKr hT
    conv => whnf
    have hb1r := hKr.blk hb1 hr1
    have hb2r := hKr.blk hb2 hr2
    have hwr : Below w0.heap.size w0 wr := (hK3.trans hKr).low hM hw hbase
    by_cases hlt : k < xs.length
    · have hrow := hgrow.reads wr (fun b hb => hKr.block b (hElt b (mem_own (by simpa using hb))).2 (hEr b (mem_own (by simpa using hb))))
      obtain ⟨ad2, rfl, hin⟩ := rowBE hrow k (by rw [hl]; exact hlt)
      have hnext : (mg M (srcOf c) k = true → objP c xs[k]! M) → objsTo xs c k M → objsTo xs c (k + 1) M := fun h q o ho hm => by
        rcases Nat.lt_or_ge o k with hok | hok
        · exact q o hok hm
        · have : o = k := by omega
          subst this
          exact h hm
      (repeat' (first | (refine wl_L tabOk rfl rfl rfl rfl rfl rfl hin (run_l tabOk ?_); conv => whnf) | (refine wl_Xn tabOk 4 1 rfl rfl rfl rfl rfl rfl rfl (by omega) (run_l tabOk ?_); conv => whnf) | (refine wl_add rfl rfl rfl rfl rfl rfl (by omega) (by omega) (run_l tabOk ?_); conv => whnf) | (refine wl_sub rfl rfl rfl rfl rfl rfl (by omega) (by omega) (run_l tabOk ?_); conv => whnf) | (refine wl_cvA tabOk rfl rfl rfl (by simp only [inK]; omega) rfl rfl rfl (run_l tabOk ?_); conv => whnf) | (refine wl_cvB tabOk rfl rfl rfl rfl rfl rfl (run_l tabOk ?_); conv => whnf) | (refine wl_rem rfl rfl rfl rfl rfl rfl (by omega) (by omega) (fun r hr hr0 hr1 hr2 => run_l tabOk ?_); conv => whnf) | (refine wl_quo rfl rfl rfl rfl rfl rfl (by omega) (by omega) (by simp only [inK]; omega) (run_l tabOk ?_); conv => whnf) | (refine wl_mul rfl rfl rfl rfl rfl rfl (by omega) (by omega) (run_l tabOk ?_); conv => whnf) | (refine gs_dt (by first | assumption | omega) ?_; conv => whnf) | (refine gs_df (by first | assumption | omega) ?_; conv => whnf) | (refine gs_t (by assumption) ?_; conv => whnf) | (refine gs_f (by assumption) ?_; conv => whnf) | (refine gs_d (fun hg => ?_) (fun hg => ?_) <;> conv => whnf) | (refine gs_n (fun hg => ?_) (fun hg => ?_) <;> conv => whnf) | (refine gs_nb (fun hg => ?_) (fun hg => ?_) <;> conv => whnf) | (refine gs_b (fun hg => ?_) (fun hg => ?_) <;> conv => whnf) | refine fin1 rfl rfl ?_))
      · have hmk : mg M (srcOf c) k = true := by rw [hsrc]; assumption
        have hgx := hx k hlt
        obtain ⟨x, adx, D, dc, hxx, rfl, ex, _, hxr, _⟩ := cellsE h1 k hlt
        rw [hxx.out] at hgx
        have kb1 : ∀ w', Keeps rb wr w' → w'.heap[g1]? = _ := fun w' h => h.blk hb1r hr1
        have kb2 : ∀ w', Keeps rb wr w' → w'.heap[g2]? = _ := fun w' h => h.blk hb2r hr2
        have kx : ∀ w', Keeps rb wr w' → cellsAt w' (adx.add (k * 3)) 0 [.bool x.fn, .int .i64 x.v, .slice D x.args.length dc] := fun w' h => cellsAt_up (h.low hMr hwr hbase) ex
        have kc : ∀ w', Keeps rb wr w' → cellsAt w' ⟨g2, 0, none⟩ 0 [.int .u8 c.k, .int .i64 c.a, .int .i64 c.b, .slice B c.args.length bc] := fun w' h => cellsAt_blk (kb2 w' h) _ 0 0 (by simp)
        refine wc_qx [0, 1, 2, 3, 4, 5, 6] 1 8 (stable_Kw rb wr) tabOk mixed (by kernel_rfl) (Keeps.refl _ _) ?_
        conv => whnf
        (repeat' (first | (refine wq_LgC tabOk kb1 rfl rfl rfl rfl rfl rfl rfl (run_q tabOk ?_); conv => whnf) | (refine wq_Xn tabOk 55 3 rfl rfl rfl rfl rfl rfl rfl (by omega) (run_q tabOk ?_); conv => whnf) | (refine wq_LaC tabOk kx rfl rfl rfl rfl rfl rfl (run_q tabOk ?_); conv => whnf) | (refine wq_LaC tabOk kc rfl rfl rfl rfl rfl rfl (run_q tabOk ?_); conv => whnf) | (refine wq_add rfl rfl rfl rfl rfl rfl (by omega) (by omega) (run_q tabOk ?_); conv => whnf) | (refine wq_sub rfl rfl rfl rfl rfl rfl (by omega) (by omega) (run_q tabOk ?_); conv => whnf) | (refine wq_cvA tabOk rfl rfl rfl (by simp only [inK]; omega) rfl rfl rfl (run_q tabOk ?_); conv => whnf) | (refine wq_cvB tabOk rfl rfl rfl rfl rfl rfl (run_q tabOk ?_); conv => whnf) | (refine wq_rem rfl rfl rfl rfl rfl rfl (by omega) (by omega) (fun r hr hr0 hr1 hr2 => run_q tabOk ?_); conv => whnf) | (refine wq_quo rfl rfl rfl rfl rfl rfl (by omega) (by omega) (by simp only [inK]; omega) (run_q tabOk ?_); conv => whnf) | (refine wq_mul rfl rfl rfl rfl rfl rfl (by omega) (by omega) (run_q tabOk ?_); conv => whnf) | (refine gs_dt (by first | assumption | omega) ?_; conv => whnf) | (refine gs_df (by first | assumption | omega) ?_; conv => whnf) | (refine gs_t (by assumption) ?_; conv => whnf) | (refine gs_f (by assumption) ?_; conv => whnf) | (refine gs_d (fun hg => ?_) (fun hg => ?_) <;> conv => whnf) | (refine gs_n (fun hg => ?_) (fun hg => ?_) <;> conv => whnf) | (refine gs_nb (fun hg => ?_) (fun hg => ?_) <;> conv => whnf) | (refine gs_b (fun hg => ?_) (fun hg => ?_) <;> conv => whnf)))
        intro u1 hu1 hbu1
        conv => whnf
        refine ⟨?_, trivial⟩
        conv => whnf
        refine wb_C fn31 (leastObject c x Mk rb n xs.length base (some ad) B D cap bc dc w0 u1 (hMr.up hbu1) (by omega) (bup hwr hbu1) hbase hB hxr.out hca (fun h => hcb (by omega)) hgx.v hgx.args hc.args) rfl rfl rfl rfl rfl rfl ?_
        rintro _ u2 ⟨M4, b4, rfl, hM4, hK4, hT4⟩
        have hT5 := hT.step hM.sh hT4 (fun N hN h => by have := h.2.2 hkn1 hkn2 k hlt (hN _ _ (hT.le _ _ hmk)); rwa [hxx.out] at this) (Q' := objsTo xs c (k + 1) M) (fun q p => hnext (fun _ => by rw [hxx.out]; exact p) q)
        refine ⟨_, rfl, hu1.trans hK4, fun u3 hbu3 hu3 => ?_⟩
        conv => whnf
        (repeat' (first | (refine wl_add rfl rfl rfl rfl rfl rfl (by omega) (by omega) (run_l tabOk ?_); conv => whnf) | (refine wl_sub rfl rfl rfl rfl rfl rfl (by omega) (by omega) (run_l tabOk ?_); conv => whnf) | (refine wl_cvA tabOk rfl rfl rfl (by simp only [inK]; omega) rfl rfl rfl (run_l tabOk ?_); conv => whnf) | (refine wl_cvB tabOk rfl rfl rfl rfl rfl rfl (run_l tabOk ?_); conv => whnf) | (refine wl_rem rfl rfl rfl rfl rfl rfl (by omega) (by omega) (fun r hr hr0 hr1 hr2 => run_l tabOk ?_); conv => whnf) | (refine wl_quo rfl rfl rfl rfl rfl rfl (by omega) (by omega) (by simp only [inK]; omega) (run_l tabOk ?_); conv => whnf) | (refine wl_mul rfl rfl rfl rfl rfl rfl (by omega) (by omega) (run_l tabOk ?_); conv => whnf) | (refine gs_dt (by first | assumption | omega) ?_; conv => whnf) | (refine gs_df (by first | assumption | omega) ?_; conv => whnf) | (refine gs_t (by assumption) ?_; conv => whnf) | (refine gs_f (by assumption) ?_; conv => whnf) | (refine gs_d (fun hg => ?_) (fun hg => ?_) <;> conv => whnf) | (refine gs_n (fun hg => ?_) (fun hg => ?_) <;> conv => whnf) | (refine gs_nb (fun hg => ?_) (fun hg => ?_) <;> conv => whnf) | (refine gs_b (fun hg => ?_) (fun hg => ?_) <;> conv => whnf) | refine fin1 rfl rfl ?_))
        · have hb4 : b4 = true := by assumption
          subst hb4
          rw [Bool.or_true] at hT5
          exact ⟨(k + 1, M4, true), ⟨rfl, rfl, rfl, rfl, rfl, rfl, rfl, trivial⟩, ⟨by simp only; omega, hM4.up hbu3, hKr.trans hu3, hT5⟩, by simp only; omega⟩
        · have hb4 : b4 = false := by assumption
          subst hb4
          rw [Bool.or_false] at hT5
          exact ⟨(k + 1, M4, bk), ⟨rfl, rfl, rfl, rfl, rfl, rfl, rfl, trivial⟩, ⟨by simp only; omega, hM4.up hbu3, hKr.trans hu3, hT5⟩, by simp only; omega⟩
      · have hmk : mg M (srcOf c) k = false := by rw [hsrc]; assumption
        exact ⟨(k + 1, Mk, bk), ⟨rfl, rfl, rfl, rfl, rfl, rfl, rfl, trivial⟩, ⟨by simp only; omega, hMr, hKr, hT.weak fun _ _ q => hnext (fun h => by rw [hmk] at h; cases h) q⟩, by simp only; omega⟩
    · have hkn : k = xs.length := by omega
      subst hkn
      (repeat' (first | (refine wl_add rfl rfl rfl rfl rfl rfl (by omega) (by omega) (run_l tabOk ?_); conv => whnf) | (refine wl_sub rfl rfl rfl rfl rfl rfl (by omega) (by omega) (run_l tabOk ?_); conv => whnf) | (refine wl_cvA tabOk rfl rfl rfl (by simp only [inK]; omega) rfl rfl rfl (run_l tabOk ?_); conv => whnf) | (refine wl_cvB tabOk rfl rfl rfl rfl rfl rfl (run_l tabOk ?_); conv => whnf) | (refine wl_rem rfl rfl rfl rfl rfl rfl (by omega) (by omega) (fun r hr hr0 hr1 hr2 => run_l tabOk ?_); conv => whnf) | (refine wl_quo rfl rfl rfl rfl rfl rfl (by omega) (by omega) (by simp only [inK]; omega) (run_l tabOk ?_); conv => whnf) | (refine wl_mul rfl rfl rfl rfl rfl rfl (by omega) (by omega) (run_l tabOk ?_); conv => whnf) | (refine gs_dt (by first | assumption | omega) ?_; conv => whnf) | (refine gs_df (by first | assumption | omega) ?_; conv => whnf) | (refine gs_t (by assumption) ?_; conv => whnf) | (refine gs_f (by assumption) ?_; conv => whnf) | (refine gs_d (fun hg => ?_) (fun hg => ?_) <;> conv => whnf) | (refine gs_n (fun hg => ?_) (fun hg => ?_) <;> conv => whnf) | (refine gs_nb (fun hg => ?_) (fun hg => ?_) <;> conv => whnf) | (refine gs_b (fun hg => ?_) (fun hg => ?_) <;> conv => whnf) | refine fin1 rfl rfl ?_))
      exact ⟨Mk, bk, rfl, hMr, hK3.trans hKr, hT.weak fun _ _ q => ⟨fun h => absurd h hkn1, fun h => absurd h hkn2, fun _ _ o ho hm => q o ho hm⟩⟩
  · have hkn1 : ¬ c.k = 1 := by assumption
    have hkn2 : ¬ c.k = 2 := by assumption
    have hp0 : 0 ≤ c.b ∧ c.b < n := by have := hcb (by omega); omega
    have hsrc : srcOf c = c.b.toNat := by simp only [srcOf]; rw [if_neg (by assumption)]
    have hl : M[c.b.toNat]!.length = xs.length := hM2.sh.cols _ (by omega)
    obtain ⟨ad, rfl, hcp⟩ := hM2.cells (i := c.b.toNat) (by omega)
    (repeat' (first | (refine wl_L tabOk rfl rfl rfl rfl rfl rfl hcp (run_l tabOk ?_); conv => whnf) | (refine wl_X tabOk 35 1 rfl rfl rfl rfl rfl rfl rfl (by omega) (by omega) (run_l tabOk ?_); conv => whnf) | (refine wl_add rfl rfl rfl rfl rfl rfl (by omega) (by omega) (run_l tabOk ?_); conv => whnf) | (refine wl_sub rfl rfl rfl rfl rfl rfl (by omega) (by omega) (run_l tabOk ?_); conv => whnf) | (refine wl_cvA tabOk rfl rfl rfl (by simp only [inK]; omega) rfl rfl rfl (run_l tabOk ?_); conv => whnf) | (refine wl_cvB tabOk rfl rfl rfl rfl rfl rfl (run_l tabOk ?_); conv => whnf) | (refine wl_rem rfl rfl rfl rfl rfl rfl (by omega) (by omega) (fun r hr hr0 hr1 hr2 => run_l tabOk ?_); conv => whnf) | (refine wl_quo rfl rfl rfl rfl rfl rfl (by omega) (by omega) (by simp only [inK]; omega) (run_l tabOk ?_); conv => whnf) | (refine wl_mul rfl rfl rfl rfl rfl rfl (by omega) (by omega) (run_l tabOk ?_); conv => whnf) | (refine gs_dt (by first | assumption | omega) ?_; conv => whnf) | (refine gs_df (by first | assumption | omega) ?_; conv => whnf) | (refine gs_t (by assumption) ?_; conv => whnf) | (refine gs_f (by assumption) ?_; conv => whnf) | (refine gs_d (fun hg => ?_) (fun hg => ?_) <;> conv => whnf) | (refine gs_n (fun hg => ?_) (fun hg => ?_) <;> conv => whnf) | (refine gs_nb (fun hg => ?_) (fun hg => ?_) <;> conv => whnf) | (refine gs_b (fun hg => ?_) (fun hg => ?_) <;> conv => whnf) | refine fin1 rfl rfl ?_))
    refine wl_apr tabOk 4 1 1 (own_nil _ w2.heap.size _ _) (rowB_of_blk (hM2.blk c.b.toNat (by omega)) (by rw [hl]; omega)) one_B rfl rfl rfl rfl rfl (by rw [hl]; rfl) rfl rfl rfl rfl rfl (by rw [hl]; omega) (by rw [hl]; omega) (Nat.le_refl _) ?_
    intro E ec w3 news hel hown hgr hob
    have hgrow : GRow 1 dB 4 w2.heap.size w3 (.slice E (0 + M[c.b.toNat]!.length) ec) M[c.b.toNat]! [] := grow_first hel (fun _ _ _ _ h => h) hown
    have hB3 : Below w2.heap.size w2 w3 := below_of_grown hgr
    have hEr : ∀ g, (Value.slice E (0 + M[c.b.toNat]!.length) ec).ownBlock = some g → g ∉ rb := fun g hg hm => by have := (hgrow.olt g hg).1; have := (hM2.ge g hm).2; omega
    have hElt := hgrow.olt
    simp only [hl, Nat.zero_add] at hgrow hEr hElt ⊢
    have hM3 := hM2.up hB3
    have hK3 := hK2.up hB3
    have hb1 := blk_up hB3 hb1
    have hb2 := blk_up hB3 hb2
    refine run_l tabOk ?_
    conv => whnf
    refine lp_loop tabOk (X := Nat × Mat × Bool) (fun y => [(1, .slice (some ad) n cap), (3, .pointer (some ⟨g1, 0, none⟩)), (5, .pointer (some ⟨g2, 0, none⟩)), (9, .bool y.2.2), (54, .slice E xs.length ec), (55, .int .i64 xs.length), (56, .int .i64 y.1)])
      (fun y wr => y.1 ≤ xs.length ∧ BMat base wr (some ad) y.2.1 rb n xs.length ∧ Keeps rb w3 wr ∧ Tr n xs.length (ruleP xs c) (objsTo xs c y.1 M) M y.2.1 y.2.2) (fun y => xs.length - y.1) (0, M, false) ⟨rfl, rfl, rfl, rfl, rfl, rfl, rfl, trivial⟩ ⟨by simp, hM3, Keeps.refl _ _, Tr.start hM.sh fun o ho => by simp at ho⟩ ?_
    rintro ⟨k, Mk, bk⟩ G wr ⟨hk, hMr, hKr, hT⟩
    simp only at hk hMr hKr hT
    conv => whnf
    have hb1r := hKr.blk hb1 hr1
    have hb2r := hKr.blk hb2 hr2
    have hwr : Below w0.heap.size w0 wr := (hK3.trans hKr).low hM hw hbase
    by_cases hlt : k < xs.length
    · have hrow := hgrow.reads wr (fun b hb => hKr.block b (hElt b (mem_own (by simpa using hb))).2 (hEr b (mem_own (by simpa using hb))))
      obtain ⟨ad2, rfl, hin⟩ := rowBE hrow k (by rw [hl]; exact hlt)
      have hnext : (mg M (srcOf c) k = true → objP c xs[k]! M) → objsTo xs c k M → objsTo xs c (k + 1) M := fun h q o ho hm => by
        rcases Nat.lt_or_ge o k with hok | hok
        · exact q o hok hm
        · have : o = k := by omega
          subst this
          exact h hm
      (repeat' (first | (refine wl_L tabOk rfl rfl rfl rfl rfl rfl hin (run_l tabOk ?_); conv => whnf) | (refine wl_Xn tabOk 4 1 rfl rfl rfl rfl rfl rfl rfl (by omega) (run_l tabOk ?_); conv => whnf) | (refine wl_add rfl rfl rfl rfl rfl rfl (by omega) (by omega) (run_l tabOk ?_); conv => whnf) | (refine wl_sub rfl rfl rfl rfl rfl rfl (by omega) (by omega) (run_l tabOk ?_); conv => whnf) | (refine wl_cvA tabOk rfl rfl rfl (by simp only [inK]; omega) rfl rfl rfl (run_l tabOk ?_); conv => whnf) | (refine wl_cvB tabOk rfl rfl rfl rfl rfl rfl (run_l tabOk ?_); conv => whnf) | (refine wl_rem rfl rfl rfl rfl rfl rfl (by omega) (by omega) (fun r hr hr0 hr1 hr2 => run_l tabOk ?_); conv => whnf) | (refine wl_quo rfl rfl rfl rfl rfl rfl (by omega) (by omega) (by simp only [inK]; omega) (run_l tabOk ?_); conv => whnf) | (refine wl_mul rfl rfl rfl rfl rfl rfl (by omega) (by omega) (run_l tabOk ?_); conv => whnf) | (refine gs_dt (by first | assumption | omega) ?_; conv => whnf) | (refine gs_df (by first | assumption | omega) ?_; conv => whnf) | (refine gs_t (by assumption) ?_; conv => whnf) | (refine gs_f (by assumption) ?_; conv => whnf) | (refine gs_d (fun hg => ?_) (fun hg => ?_) <;> conv => whnf) | (refine gs_n (fun hg => ?_) (fun hg => ?_) <;> conv => whnf) | (refine gs_nb (fun hg => ?_) (fun hg => ?_) <;> conv => whnf) | (refine gs_b (fun hg => ?_) (fun hg => ?_) <;> conv => whnf) | refine fin1 rfl rfl ?_))
      · have hmk : mg M (srcOf c) k = true := by rw [hsrc]; assumption
        have hgx := hx k hlt
        obtain ⟨x, adx, D, dc, hxx, rfl, ex, _, hxr, _⟩ := cellsE h1 k hlt
        rw [hxx.out] at hgx
        have kb1 : ∀ w', Keeps rb wr w' → w'.heap[g1]? = _ := fun w' h => h.blk hb1r hr1
        have kb2 : ∀ w', Keeps rb wr w' → w'.heap[g2]? = _ := fun w' h => h.blk hb2r hr2
        have kx : ∀ w', Keeps rb wr w' → cellsAt w' (adx.add (k * 3)) 0 [.bool x.fn, .int .i64 x.v, .slice D x.args.length dc] := fun w' h => cellsAt_up (h.low hMr hwr hbase) ex
        have kc : ∀ w', Keeps rb wr w' → cellsAt w' ⟨g2, 0, none⟩ 0 [.int .u8 c.k, .int .i64 c.a, .int .i64 c.b, .slice B c.args.length bc] := fun w' h => cellsAt_blk (kb2 w' h) _ 0 0 (by simp)
        refine wc_qx [0, 1, 2, 3, 4, 5, 6] 1 8 (stable_Kw rb wr) tabOk mixed (by kernel_rfl) (Keeps.refl _ _) ?_
        conv => whnf
        (repeat' (first | (refine wq_LgC tabOk kb1 rfl rfl rfl rfl rfl rfl rfl (run_q tabOk ?_); conv => whnf) | (refine wq_Xn tabOk 55 3 rfl rfl rfl rfl rfl rfl rfl (by omega) (run_q tabOk ?_); conv => whnf) | (refine wq_LaC tabOk kx rfl rfl rfl rfl rfl rfl (run_q tabOk ?_); conv => whnf) | (refine wq_LaC tabOk kc rfl rfl rfl rfl rfl rfl (run_q tabOk ?_); conv => whnf) | (refine wq_add rfl rfl rfl rfl rfl rfl (by omega) (by omega) (run_q tabOk ?_); conv => whnf) | (refine wq_sub rfl rfl rfl rfl rfl rfl (by omega) (by omega) (run_q tabOk ?_); conv => whnf) | (refine wq_cvA tabOk rfl rfl rfl (by simp only [inK]; omega) rfl rfl rfl (run_q tabOk ?_); conv => whnf) | (refine wq_cvB tabOk rfl rfl rfl rfl rfl rfl (run_q tabOk ?_); conv => whnf) | (refine wq_rem rfl rfl rfl rfl rfl rfl (by omega) (by omega) (fun r hr hr0 hr1 hr2 => run_q tabOk ?_); conv => whnf) | (refine wq_quo rfl rfl rfl rfl rfl rfl (by omega) (by omega) (by simp only [inK]; omega) (run_q tabOk ?_); conv => whnf) | (refine wq_mul rfl rfl rfl rfl rfl rfl (by omega) (by omega) (run_q tabOk ?_); conv => whnf) | (refine gs_dt (by first | assumption | omega) ?_; conv => whnf) | (refine gs_df (by first | assumption | omega) ?_; conv => whnf) | (refine gs_t (by assumption) ?_; conv => whnf) | (refine gs_f (by assumption) ?_; conv => whnf) | (refine gs_d (fun hg => ?_) (fun hg => ?_) <;> conv => whnf) | (refine gs_n (fun hg => ?_) (fun hg => ?_) <;> conv => whnf) | (refine gs_nb (fun hg => ?_) (fun hg => ?_) <;> conv => whnf) | (refine gs_b (fun hg => ?_) (fun hg => ?_) <;> conv => whnf)))
        intro u1 hu1 hbu1
        conv => whnf
        refine ⟨?_, trivial⟩
        conv => whnf
        refine wb_C fn31 (leastObject c x Mk rb n xs.length base (some ad) B D cap bc dc w0 u1 (hMr.up hbu1) (by omega) (bup hwr hbu1) hbase hB hxr.out hca (fun h => hcb (by omega)) hgx.v hgx.args hc.args) rfl rfl rfl rfl rfl rfl ?_
        rintro _ u2 ⟨M4, b4, rfl, hM4, hK4, hT4⟩
        have hT5 := hT.step hM.sh hT4 (fun N hN h => by have := h.2.2 hkn1 hkn2 k hlt (hN _ _ (hT.le _ _ hmk)); rwa [hxx.out] at this) (Q' := objsTo xs c (k + 1) M) (fun q p => hnext (fun _ => by rw [hxx.out]; exact p) q)
        refine ⟨_, rfl, hu1.trans hK4, fun u3 hbu3 hu3 => ?_⟩
        conv => whnf
        (repeat' (first | (refine wl_add rfl rfl rfl rfl rfl rfl (by omega) (by omega) (run_l tabOk ?_); conv => whnf) | (refine wl_sub rfl rfl rfl rfl rfl rfl (by omega) (by omega) (run_l tabOk ?_); conv => whnf) | (refine wl_cvA tabOk rfl rfl rfl (by simp only [inK]; omega) rfl rfl rfl (run_l tabOk ?_); conv => whnf) | (refine wl_cvB tabOk rfl rfl rfl rfl rfl rfl (run_l tabOk ?_); conv => whnf) | (refine wl_rem rfl rfl rfl rfl rfl rfl (by omega) (by omega) (fun r hr hr0 hr1 hr2 => run_l tabOk ?_); conv => whnf) | (refine wl_quo rfl rfl rfl rfl rfl rfl (by omega) (by omega) (by simp only [inK]; omega) (run_l tabOk ?_); conv => whnf) | (refine wl_mul rfl rfl rfl rfl rfl rfl (by omega) (by omega) (run_l tabOk ?_); conv => whnf) | (refine gs_dt (by first | assumption | omega) ?_; conv => whnf) | (refine gs_df (by first | assumption | omega) ?_; conv => whnf) | (refine gs_t (by assumption) ?_; conv => whnf) | (refine gs_f (by assumption) ?_; conv => whnf) | (refine gs_d (fun hg => ?_) (fun hg => ?_) <;> conv => whnf) | (refine gs_n (fun hg => ?_) (fun hg => ?_) <;> conv => whnf) | (refine gs_nb (fun hg => ?_) (fun hg => ?_) <;> conv => whnf) | (refine gs_b (fun hg => ?_) (fun hg => ?_) <;> conv => whnf) | refine fin1 rfl rfl ?_))
        · have hb4 : b4 = true := by assumption
          subst hb4
          rw [Bool.or_true] at hT5
          exact ⟨(k + 1, M4, true), ⟨rfl, rfl, rfl, rfl, rfl, rfl, rfl, trivial⟩, ⟨by simp only; omega, hM4.up hbu3, hKr.trans hu3, hT5⟩, by simp only; omega⟩
        · have hb4 : b4 = false := by assumption
          subst hb4
          rw [Bool.or_false] at hT5
          exact ⟨(k + 1, M4, bk), ⟨rfl, rfl, rfl, rfl, rfl, rfl, rfl, trivial⟩, ⟨by simp only; omega, hM4.up hbu3, hKr.trans hu3, hT5⟩, by simp only; omega⟩
      · have hmk : mg M (srcOf c) k = false := by rw [hsrc]; assumption
        exact ⟨(k + 1, Mk, bk), ⟨rfl, rfl, rfl, rfl, rfl, rfl, rfl, trivial⟩, ⟨by simp only; omega, hMr, hKr, hT.weak fun _ _ q => hnext (fun h => by rw [hmk] at h; cases h) q⟩, by simp only; omega⟩
    · have hkn : k = xs.length := by omega
      subst hkn
      (repeat' (first | (refine wl_add rfl rfl rfl rfl rfl rfl (by omega) (by omega) (run_l tabOk ?_); conv => whnf) | (refine wl_sub rfl rfl rfl rfl rfl rfl (by omega) (by omega) (run_l tabOk ?_); conv => whnf) | (refine wl_cvA tabOk rfl rfl rfl (by simp only [inK]; omega) rfl rfl rfl (run_l tabOk ?_); conv => whnf) | (refine wl_cvB tabOk rfl rfl rfl rfl rfl rfl (run_l tabOk ?_); conv => whnf) | (refine wl_rem rfl rfl rfl rfl rfl rfl (by omega) (by omega) (fun r hr hr0 hr1 hr2 => run_l tabOk ?_); conv => whnf) | (refine wl_quo rfl rfl rfl rfl rfl rfl (by omega) (by omega) (by simp only [inK]; omega) (run_l tabOk ?_); conv => whnf) | (refine wl_mul rfl rfl rfl rfl rfl rfl (by omega) (by omega) (run_l tabOk ?_); conv => whnf) | (refine gs_dt (by first | assumption | omega) ?_; conv => whnf) | (refine gs_df (by first | assumption | omega) ?_; conv => whnf) | (refine gs_t (by assumption) ?_; conv => whnf) | (refine gs_f (by assumption) ?_; conv => whnf) | (refine gs_d (fun hg => ?_) (fun hg => ?_) <;> conv => whnf) | (refine gs_n (fun hg => ?_) (fun hg => ?_) <;> conv => whnf) | (refine gs_nb (fun hg => ?_) (fun hg => ?_) <;> conv => whnf) | (refine gs_b (fun hg => ?_) (fun hg => ?_) <;> conv => whnf) | refine fin1 rfl rfl ?_))
      exact ⟨Mk, bk, rfl, hMr, hK3.trans hKr, hT.weak fun _ _ q => ⟨fun h => absurd h hkn1, fun h => absurd h hkn2, fun _ _ o ho hm => q o ho hm⟩⟩
end Go.Proofs.Ytkmnhkfgjadppaa
