/- Several texts of one claim in one file: S23. -/
import Derived.Test.YtjggjhgbobmkhaaA6
/- The reference's Step: all constraints once. -/
namespace Go.Proofs.Ytjggjhgbobmkhaa
open Go.RowKit
set_option linter.unusedVariables false
set_option linter.unusedSimpArgs false
set_option maxRecDepth 100000
def closedL (xs : List Cell) (ys : List Con) (N : Mat) : Prop := ∀ i, i < ys.length → ruleP xs ys[i]! N
/-- The i first constraints are through. -/
def consTo (xs : List Cell) (ys : List Con) (i : Nat) (M : Mat) : Prop := ∀ j, j < i → ruleP xs ys[j]! M
theorem consTo_next {xs : List Cell} {ys : List Con} {i : Nat} {M : Mat} (h : consTo xs ys i M) (hr : ruleP xs ys[i]! M) : consTo xs ys (i + 1) M := fun j hj => by
  rcases Nat.lt_or_ge j i with h1 | h1
  · exact h j h1
  · have : j = i := by omega
    subst this
    exact hr
theorem objsTo_next {xs : List Cell} {c : Con} {k : Nat} {M : Mat} (h : objsTo xs c k M) (hr : mg M (srcOf c) k = true → objP c xs[k]! M) : objsTo xs c (k + 1) M := fun j hj => by
  rcases Nat.lt_or_ge j k with h1 | h1
  · exact h j h1
  · have : j = k := by omega
    subst this
    exact hr
theorem argsTo_next {c : Con} {x : Cell} {j : Nat} {M : Mat} (q : argsTo c x j M) (h : j < x.args.length → j < c.args.length → flowP x.args[j]! c.args[j]! M) : argsTo c x (j + 1) M := ⟨q.1, fun k hk hk1 hk2 => by
  rcases Nat.lt_or_ge k j with hkj | hkj
  · exact q.2 k hkj hk1 hk2
  · have : k = j := by omega
    subst this
    exact h hk1 hk2⟩
set_option maxHeartbeats 40000000 in
theorem refStep (xs : List Cell) (ys : List Con) (M : Mat) (rb : List Nat) (n : Nat) (base : Nat) (A A1 A2 : Option Addr) (cap c1 c2 : Nat) (w0 w : World) (hM : BMat base w A M rb n xs.length) (hw : Below w0.heap.size w0 w) (hbase : w0.heap.size ≤ base)
    (h1 : RCells w0 A1 xs) (h2 : RCons w0 A2 ys) (hc : ∀ i, i < ys.length → GoodC n xs.length ys[i]!) (hx : ∀ o, o < xs.length → GoodX n xs[o]!) (hsm : xs.length ≤ 16384) :
    Calls Try.prog 46 #[.agg #[.int .i64 n, .slice A1 xs.length c1, .slice A2 ys.length c2], .slice A n cap] w fun e w' => ∃ M' b, e = .returned (.bool b) ∧ BMat base w' A M' rb n xs.length ∧ Keeps rb w w' ∧ Tr n xs.length (closedL xs ys) (closedL xs ys M) M M' b := by
  have hm2 := h2.1
  refine enterR (args := [.agg #[.int .i64 n, .slice A1 xs.length c1, .slice A2 ys.length c2], .slice A n cap]) tabOk Try.func46 rfl Try.ntmps46 rfl ?_; conv => whnf
  refine wl_box rfl rfl rfl rfl rfl rfl ?_
  intro g1 w1 hn1
  have hb1 := hn1.blk
  have hM1 := hM.up hn1.below
  have hr1 : g1 ∉ rb := not_mem_new hM (by have := hn1.at_; omega)
  have hK1 : Keeps rb w w1 := Keeps.of hn1.below
  clear hn1
  refine run_l tabOk ?_
  conv => whnf
  refine lp_loop tabOk (X := Nat × Mat × Bool) (fun y => [(1, .slice A n cap), (2, .pointer (some ⟨g1, 0, none⟩)), (5, .bool y.2.2), (6, .int .i64 y.1)])
    (fun y wr => y.1 ≤ ys.length ∧ BMat base wr A y.2.1 rb n xs.length ∧ Keeps rb w1 wr ∧ Tr n xs.length (closedL xs ys) (consTo xs ys y.1 M) M y.2.1 y.2.2) (fun y => ys.length - y.1) (0, M, false) ⟨rfl, rfl, rfl, rfl, trivial⟩ ⟨by simp, hM1, Keeps.refl _ _, Tr.start hM.sh fun o ho => by simp at ho⟩ ?_
  rintro ⟨i, Mi, bi⟩ G wr ⟨hi, hMr, hKr, hT⟩
  simp only at hi hMr hKr hT
  conv => whnf
  have hb1r := hKr.blk hb1 hr1
  have hwr : Below w0.heap.size w0 wr := (hK1.trans hKr).low hM hw hbase
  by_cases hil : i < ys.length
  · have hci := hc i hil
    obtain ⟨c, ady, B, bc, hyc, rfl, ey, _, hbr, _⟩ := consE h2 i hil
    rw [hyc.out] at hci
    have hck := hci.k
    have hca := hci.a
    have hca0 := hci.a0
    have hcb0 := hci.b0
    have hcb1 := hci.b1
    have hcb := hci.b
    (repeat' (first | (refine wl_Lg tabOk hb1r rfl rfl rfl rfl rfl rfl rfl (run_l tabOk ?_); conv => whnf) | (refine wl_Xn tabOk 46 4 rfl rfl rfl rfl rfl rfl rfl (by omega) (run_l tabOk ?_); conv => whnf) | (refine wl_La tabOk (cellsAt_up hwr ey) rfl rfl rfl rfl rfl rfl (run_l tabOk ?_); conv => whnf) | ((first | refine wl_add rfl rfl rfl rfl rfl rfl (by omega) (by omega) (run_l tabOk ?_) | refine wl_sub rfl rfl rfl rfl rfl rfl (by omega) (by omega) (run_l tabOk ?_) | refine wl_cvA tabOk rfl rfl rfl (by simp only [inK]; omega) rfl rfl rfl (run_l tabOk ?_) | refine wl_cvB tabOk rfl rfl rfl rfl rfl rfl (run_l tabOk ?_) | refine wl_rem rfl rfl rfl rfl rfl rfl (by omega) (by omega) (fun r hr hr0 hr1 hr2 => run_l tabOk ?_) | refine wl_quo rfl rfl rfl rfl rfl rfl (by omega) (by omega) (by simp only [inK]; omega) (run_l tabOk ?_) | refine wl_mul rfl rfl rfl rfl rfl rfl (by omega) (by omega) (run_l tabOk ?_) | refine gs_dt (by first | assumption | omega) ?_ | refine gs_df (by first | assumption | omega) ?_ | refine gs_t (by assumption) ?_ | refine gs_f (by assumption) ?_ | refine gs_d (fun hg => ?_) (fun hg => ?_) | refine gs_n (fun hg => ?_) (fun hg => ?_) | refine gs_nb (fun hg => ?_) (fun hg => ?_) | refine gs_b (fun hg => ?_) (fun hg => ?_)) <;> conv => whnf) | refine fin1 rfl rfl ?_))
    refine wl_alloc tabOk rfl rfl rfl rfl rfl rfl ?_
    intro g7 w6 hn6
    refine wl_Sa tabOk hn6.blk rfl rfl rfl rfl rfl (by simp [Value.oneCell']) rfl rfl ?_
    intro w7 hp7
    have hB7 : Below wr.heap.size wr w7 := hp7.below hn6.below (by have := hn6.at_; omega) (by have := hn6.size; omega)
    have hb7 := hp7.blk
    have hr7 : g7 ∉ rb := not_mem_new hMr (by have := hn6.at_; omega)
    have hb1 := blk_up hB7 hb1r
    have hM7 := hMr.up hB7
    have hK7 := hKr.up hB7
    have hw7 := bup hwr hB7
    clear hn6 hp7
    refine run_l tabOk ?_
    conv => whnf
    (repeat' (first | (refine wl_Lg tabOk hb7 rfl rfl rfl rfl rfl rfl rfl (run_l tabOk ?_); conv => whnf) | ((first | refine wl_add rfl rfl rfl rfl rfl rfl (by omega) (by omega) (run_l tabOk ?_) | refine wl_sub rfl rfl rfl rfl rfl rfl (by omega) (by omega) (run_l tabOk ?_) | refine wl_cvA tabOk rfl rfl rfl (by simp only [inK]; omega) rfl rfl rfl (run_l tabOk ?_) | refine wl_cvB tabOk rfl rfl rfl rfl rfl rfl (run_l tabOk ?_) | refine wl_rem rfl rfl rfl rfl rfl rfl (by omega) (by omega) (fun r hr hr0 hr1 hr2 => run_l tabOk ?_) | refine wl_quo rfl rfl rfl rfl rfl rfl (by omega) (by omega) (by simp only [inK]; omega) (run_l tabOk ?_) | refine wl_mul rfl rfl rfl rfl rfl rfl (by omega) (by omega) (run_l tabOk ?_) | refine gs_dt (by first | assumption | omega) ?_ | refine gs_df (by first | assumption | omega) ?_ | refine gs_t (by assumption) ?_ | refine gs_f (by assumption) ?_ | refine gs_d (fun hg => ?_) (fun hg => ?_) | refine gs_n (fun hg => ?_) (fun hg => ?_) | refine gs_nb (fun hg => ?_) (fun hg => ?_) | refine gs_b (fun hg => ?_) (fun hg => ?_)) <;> conv => whnf) | refine fin1 rfl rfl ?_))
    · -- an object is in a variable
      have hk1 : c.k = 1 := by assumption
      have hbn := hcb1 hk1
      have ha0 := hca0 (by omega)
      obtain ⟨ad, rfl, hca1⟩ := hM7.cells (i := c.a.toNat) (by omega)
      have hbit := hM7.bit (i := c.a.toNat) (o := c.b.toNat) (by omega) (by omega)
      refine wc_qr tabOk mixed (by kernel_rfl) ?_; conv => whnf
      (repeat' (first | (refine wq_Lg tabOk hb7 rfl rfl rfl rfl rfl rfl rfl (run_q tabOk ?_); conv => whnf) | (refine wq_L tabOk rfl rfl rfl rfl rfl rfl hca1 (run_q tabOk ?_); conv => whnf) | (refine wq_L tabOk rfl rfl rfl rfl rfl rfl hbit (run_q tabOk ?_); conv => whnf) | (refine wq_X tabOk 34 1 rfl rfl rfl rfl rfl rfl rfl (by omega) (by omega) (run_q tabOk ?_); conv => whnf) | (refine wq_X tabOk 4 1 rfl rfl rfl rfl rfl rfl rfl (by omega) (by omega) (run_q tabOk ?_); conv => whnf) | ((first | refine wq_add rfl rfl rfl rfl rfl rfl (by omega) (by omega) (run_q tabOk ?_) | refine wq_sub rfl rfl rfl rfl rfl rfl (by omega) (by omega) (run_q tabOk ?_) | refine wq_cvA tabOk rfl rfl rfl (by simp only [inK]; omega) rfl rfl rfl (run_q tabOk ?_) | refine wq_cvB tabOk rfl rfl rfl rfl rfl rfl (run_q tabOk ?_) | refine wq_rem rfl rfl rfl rfl rfl rfl (by omega) (by omega) (fun r hr hr0 hr1 hr2 => run_q tabOk ?_) | refine wq_quo rfl rfl rfl rfl rfl rfl (by omega) (by omega) (by simp only [inK]; omega) (run_q tabOk ?_) | refine wq_mul rfl rfl rfl rfl rfl rfl (by omega) (by omega) (run_q tabOk ?_) | refine gs_dt (by first | assumption | omega) ?_ | refine gs_df (by first | assumption | omega) ?_ | refine gs_t (by assumption) ?_ | refine gs_f (by assumption) ?_ | refine gs_d (fun hg => ?_) (fun hg => ?_) | refine gs_n (fun hg => ?_) (fun hg => ?_) | refine gs_nb (fun hg => ?_) (fun hg => ?_) | refine gs_b (fun hg => ?_) (fun hg => ?_)) <;> conv => whnf)))
      intro w8 hB8
      conv => whnf
      have hM8 := hM7.up hB8
      have hb8 := blk_up hB8 hb7
      have rule1 : ∀ N : Mat, mg N c.a.toNat c.b.toNat = true → ruleP xs c N := fun N h => ⟨fun _ => h, fun h => by omega, fun h => absurd hk1 h⟩
      (repeat' (first | ((first | refine wl_add rfl rfl rfl rfl rfl rfl (by omega) (by omega) (run_l tabOk ?_) | refine wl_sub rfl rfl rfl rfl rfl rfl (by omega) (by omega) (run_l tabOk ?_) | refine wl_cvA tabOk rfl rfl rfl (by simp only [inK]; omega) rfl rfl rfl (run_l tabOk ?_) | refine wl_cvB tabOk rfl rfl rfl rfl rfl rfl (run_l tabOk ?_) | refine wl_rem rfl rfl rfl rfl rfl rfl (by omega) (by omega) (fun r hr hr0 hr1 hr2 => run_l tabOk ?_) | refine wl_quo rfl rfl rfl rfl rfl rfl (by omega) (by omega) (by simp only [inK]; omega) (run_l tabOk ?_) | refine wl_mul rfl rfl rfl rfl rfl rfl (by omega) (by omega) (run_l tabOk ?_) | refine gs_dt (by first | assumption | omega) ?_ | refine gs_df (by first | assumption | omega) ?_ | refine gs_t (by assumption) ?_ | refine gs_f (by assumption) ?_ | refine gs_d (fun hg => ?_) (fun hg => ?_) | refine gs_n (fun hg => ?_) (fun hg => ?_) | refine gs_nb (fun hg => ?_) (fun hg => ?_) | refine gs_b (fun hg => ?_) (fun hg => ?_)) <;> conv => whnf) | refine fin1 rfl rfl ?_))
      · have hm : mg Mi c.a.toNat c.b.toNat = false := by assumption
        refine wc_qx [0, 1, 2, 3, 4, 5, 6] 0 7 (stable_Bw _) tabOk mixed (by kernel_rfl) (Below.refl _ _) ?_; (conv => whnf)
        (repeat' (first | (refine wq_Lg tabOk hb8 rfl rfl rfl rfl rfl rfl rfl (run_q tabOk ?_); conv => whnf) | (refine wq_L tabOk rfl rfl rfl rfl rfl rfl (cell_up hB8 hca1) (run_q tabOk ?_); conv => whnf) | (refine wq_X tabOk 34 1 rfl rfl rfl rfl rfl rfl rfl (by omega) (by omega) (run_q tabOk ?_); conv => whnf) | (refine wq_X tabOk 4 1 rfl rfl rfl rfl rfl rfl rfl (by omega) (by omega) (run_q tabOk ?_); conv => whnf) | ((first | refine wq_add rfl rfl rfl rfl rfl rfl (by omega) (by omega) (run_q tabOk ?_) | refine wq_sub rfl rfl rfl rfl rfl rfl (by omega) (by omega) (run_q tabOk ?_) | refine wq_cvA tabOk rfl rfl rfl (by simp only [inK]; omega) rfl rfl rfl (run_q tabOk ?_) | refine wq_cvB tabOk rfl rfl rfl rfl rfl rfl (run_q tabOk ?_) | refine wq_rem rfl rfl rfl rfl rfl rfl (by omega) (by omega) (fun r hr hr0 hr1 hr2 => run_q tabOk ?_) | refine wq_quo rfl rfl rfl rfl rfl rfl (by omega) (by omega) (by simp only [inK]; omega) (run_q tabOk ?_) | refine wq_mul rfl rfl rfl rfl rfl rfl (by omega) (by omega) (run_q tabOk ?_) | refine gs_dt (by first | assumption | omega) ?_ | refine gs_df (by first | assumption | omega) ?_ | refine gs_t (by assumption) ?_ | refine gs_f (by assumption) ?_ | refine gs_d (fun hg => ?_) (fun hg => ?_) | refine gs_n (fun hg => ?_) (fun hg => ?_) | refine gs_nb (fun hg => ?_) (fun hg => ?_) | refine gs_b (fun hg => ?_) (fun hg => ?_)) <;> conv => whnf)))
        intro w9 hC hB9
        conv => whnf
        (repeat' (first | (refine wl_X tabOk 4 1 rfl rfl rfl rfl rfl rfl rfl (by omega) (by omega) (run_l tabOk ?_); conv => whnf) | ((first | refine wl_add rfl rfl rfl rfl rfl rfl (by omega) (by omega) (run_l tabOk ?_) | refine wl_sub rfl rfl rfl rfl rfl rfl (by omega) (by omega) (run_l tabOk ?_) | refine wl_cvA tabOk rfl rfl rfl (by simp only [inK]; omega) rfl rfl rfl (run_l tabOk ?_) | refine wl_cvB tabOk rfl rfl rfl rfl rfl rfl (run_l tabOk ?_) | refine wl_rem rfl rfl rfl rfl rfl rfl (by omega) (by omega) (fun r hr hr0 hr1 hr2 => run_l tabOk ?_) | refine wl_quo rfl rfl rfl rfl rfl rfl (by omega) (by omega) (by simp only [inK]; omega) (run_l tabOk ?_) | refine wl_mul rfl rfl rfl rfl rfl rfl (by omega) (by omega) (run_l tabOk ?_) | refine gs_dt (by first | assumption | omega) ?_ | refine gs_df (by first | assumption | omega) ?_ | refine gs_t (by assumption) ?_ | refine gs_f (by assumption) ?_ | refine gs_d (fun hg => ?_) (fun hg => ?_) | refine gs_n (fun hg => ?_) (fun hg => ?_) | refine gs_nb (fun hg => ?_) (fun hg => ?_) | refine gs_b (fun hg => ?_) (fun hg => ?_)) <;> conv => whnf) | refine fin1 rfl rfl ?_))
        have hM9 := hM8.up hB9
        refine wl_Se (j := c.b.toNat * 1) (v := .bool true) tabOk (hM9.blk c.a.toNat (by omega)) rfl rfl rfl rfl rfl rfl (by unfold vb; rw [List.length_map, hM9.sh.cols _ (by omega)]; omega) rfl rfl ?_
        intro w10 hp10
        rw [Nat.mul_one] at hp10
        have hM10 := hM9.put (by omega) hp10
        have hK10 := ((hK7.up hB8).up hB9).put hp10 (hM9.mem (by omega))
        have hT4 : Tr n xs.length (fun N => mg N c.a.toNat c.b.toNat = true) (mg Mi c.a.toNat c.b.toNat = true) Mi (setT Mi c.a.toNat c.b.toNat) true := Tr.one hT.sh (by omega) (by omega) hm fun N _ h => h
        have hT5 := hT.step hM.sh hT4 (fun N _ h => by have := (h i hil); rw [hyc.out] at this; exact this.1 hk1) (Q' := consTo xs ys (i + 1) M) (fun q h => consTo_next q (by rw [hyc.out]; exact rule1 M h))
        rw [Bool.or_true] at hT5
        refine run_l tabOk ?_
        conv => whnf
        (repeat' (first | ((first | refine wl_add rfl rfl rfl rfl rfl rfl (by omega) (by omega) (run_l tabOk ?_) | refine wl_sub rfl rfl rfl rfl rfl rfl (by omega) (by omega) (run_l tabOk ?_) | refine wl_cvA tabOk rfl rfl rfl (by simp only [inK]; omega) rfl rfl rfl (run_l tabOk ?_) | refine wl_cvB tabOk rfl rfl rfl rfl rfl rfl (run_l tabOk ?_) | refine wl_rem rfl rfl rfl rfl rfl rfl (by omega) (by omega) (fun r hr hr0 hr1 hr2 => run_l tabOk ?_) | refine wl_quo rfl rfl rfl rfl rfl rfl (by omega) (by omega) (by simp only [inK]; omega) (run_l tabOk ?_) | refine wl_mul rfl rfl rfl rfl rfl rfl (by omega) (by omega) (run_l tabOk ?_) | refine gs_dt (by first | assumption | omega) ?_ | refine gs_df (by first | assumption | omega) ?_ | refine gs_t (by assumption) ?_ | refine gs_f (by assumption) ?_ | refine gs_d (fun hg => ?_) (fun hg => ?_) | refine gs_n (fun hg => ?_) (fun hg => ?_) | refine gs_nb (fun hg => ?_) (fun hg => ?_) | refine gs_b (fun hg => ?_) (fun hg => ?_)) <;> conv => whnf) | refine fin1 rfl rfl ?_))
        exact ⟨(i + 1, setT Mi c.a.toNat c.b.toNat, true), ⟨rfl, rfl, rfl, rfl, trivial⟩, ⟨by simp only; omega, hM10, hK10, hT5⟩, by simp only; omega⟩
      · have hm : mg Mi c.a.toNat c.b.toNat = true := by assumption
        exact ⟨(i + 1, Mi, bi), ⟨rfl, rfl, rfl, rfl, trivial⟩, ⟨by simp only; omega, hM8, hK7.up hB8, hT.weak fun _ e q => consTo_next q (by rw [hyc.out]; exact rule1 M (by rw [← e]; exact hm))⟩, by simp only; omega⟩
    · -- a copy
      have hk2 : c.k = 2 := by assumption
      have hbn := hcb (by omega)
      refine wl_C fn60 (refFlow Mi rb n xs.length base A cap c.a c.b w7 hM7 (by omega) (by omega) (by omega)) rfl rfl rfl rfl rfl rfl rfl ?_
      rintro _ w8 ⟨M4, b4, rfl, hM4, hK4, hT4⟩
      have hT5 := hT.step hM.sh hT4 (fun N _ h => by have := (h i hil); rw [hyc.out] at this; exact this.2.1 hk2) (Q' := consTo xs ys (i + 1) M) (fun q h => consTo_next q (by rw [hyc.out]; exact ⟨fun h => by omega, fun _ => h, fun _ h => absurd hk2 h⟩))
      refine ⟨_, rfl, run_l tabOk ?_⟩
      conv => whnf
      (repeat' (first | ((first | refine wl_add rfl rfl rfl rfl rfl rfl (by omega) (by omega) (run_l tabOk ?_) | refine wl_sub rfl rfl rfl rfl rfl rfl (by omega) (by omega) (run_l tabOk ?_) | refine wl_cvA tabOk rfl rfl rfl (by simp only [inK]; omega) rfl rfl rfl (run_l tabOk ?_) | refine wl_cvB tabOk rfl rfl rfl rfl rfl rfl (run_l tabOk ?_) | refine wl_rem rfl rfl rfl rfl rfl rfl (by omega) (by omega) (fun r hr hr0 hr1 hr2 => run_l tabOk ?_) | refine wl_quo rfl rfl rfl rfl rfl rfl (by omega) (by omega) (by simp only [inK]; omega) (run_l tabOk ?_) | refine wl_mul rfl rfl rfl rfl rfl rfl (by omega) (by omega) (run_l tabOk ?_) | refine gs_dt (by first | assumption | omega) ?_ | refine gs_df (by first | assumption | omega) ?_ | refine gs_t (by assumption) ?_ | refine gs_f (by assumption) ?_ | refine gs_d (fun hg => ?_) (fun hg => ?_) | refine gs_n (fun hg => ?_) (fun hg => ?_) | refine gs_nb (fun hg => ?_) (fun hg => ?_) | refine gs_b (fun hg => ?_) (fun hg => ?_)) <;> conv => whnf) | refine fin1 rfl rfl ?_))
      · have hb4 : b4 = true := by assumption
        subst hb4
        rw [Bool.or_true] at hT5
        exact ⟨(i + 1, M4, true), ⟨rfl, rfl, rfl, rfl, trivial⟩, ⟨by simp only; omega, hM4, hK7.trans hK4, hT5⟩, by simp only; omega⟩
      · have hb4 : b4 = false := by assumption
        subst hb4
        rw [Bool.or_false] at hT5
        exact ⟨(i + 1, M4, bi), ⟨rfl, rfl, rfl, rfl, trivial⟩, ⟨by simp only; omega, hM4, hK7.trans hK4, hT5⟩, by simp only; omega⟩
    · have hkn1 : ¬ c.k = 1 := by assumption
      have hkn2 : ¬ c.k = 2 := by assumption
      have hp0 : 0 ≤ c.a ∧ c.a < n := by have := hca0 (by omega); omega
      have hsrc : srcOf c = c.a.toNat := by simp only [srcOf]; rw [if_pos (by assumption)]
      refine lp_loop tabOk (X := Nat × Mat × Bool) (fun y => [(1, .slice A n cap), (2, .pointer (some ⟨g1, 0, none⟩)), (5, .bool y.2.2), (6, .int .i64 i), (7, .pointer (some ⟨g7, 0, none⟩)), (8, .int .i64 c.a), (9, .int .i64 y.1)])
        (fun y wo => y.1 ≤ xs.length ∧ BMat base wo A y.2.1 rb n xs.length ∧ Keeps rb w7 wo ∧ Tr n xs.length (closedL xs ys) (consTo xs ys i M ∧ objsTo xs c y.1 M) M y.2.1 y.2.2) (fun y => xs.length - y.1) (0, Mi, bi) ⟨rfl, rfl, rfl, rfl, rfl, rfl, rfl, trivial⟩ ⟨by simp, hM7, Keeps.refl _ _, hT.weak fun _ _ q => ⟨q, fun o ho => by simp at ho⟩⟩ ?_
      rintro ⟨k, Mk, bk⟩ G5 wo ⟨hk, hMo, hKo, hTo⟩
      simp only at hk hMo hKo hTo
      conv => whnf
      have hb1o := hKo.blk hb1 hr1
      have hb7o := hKo.blk hb7 hr7
      have hwo : Below w0.heap.size w0 wo := hKo.low hM7 hw7 hbase
      by_cases hkl : k < xs.length
      · have hgx := hx k hkl
        obtain ⟨x, adx, D, dc, hxx, rfl, ex, _, hxr, _⟩ := cellsE h1 k hkl
        rw [hxx.out] at hgx
        have hv0 := hgx.v0
        have hvn := hgx.v
        have hdl := hxr.out.1
        have hbl := hbr.out.1
        (repeat' (first | (refine wl_Lg tabOk hb1o rfl rfl rfl rfl rfl rfl rfl (run_l tabOk ?_); conv => whnf) | (refine wl_Xn tabOk 44 3 rfl rfl rfl rfl rfl rfl rfl (by omega) (run_l tabOk ?_); conv => whnf) | (refine wl_La tabOk (cellsAt_up hwo ex) rfl rfl rfl rfl rfl rfl (run_l tabOk ?_); conv => whnf) | ((first | refine wl_add rfl rfl rfl rfl rfl rfl (by omega) (by omega) (run_l tabOk ?_) | refine wl_sub rfl rfl rfl rfl rfl rfl (by omega) (by omega) (run_l tabOk ?_) | refine wl_cvA tabOk rfl rfl rfl (by simp only [inK]; omega) rfl rfl rfl (run_l tabOk ?_) | refine wl_cvB tabOk rfl rfl rfl rfl rfl rfl (run_l tabOk ?_) | refine wl_rem rfl rfl rfl rfl rfl rfl (by omega) (by omega) (fun r hr hr0 hr1 hr2 => run_l tabOk ?_) | refine wl_quo rfl rfl rfl rfl rfl rfl (by omega) (by omega) (by simp only [inK]; omega) (run_l tabOk ?_) | refine wl_mul rfl rfl rfl rfl rfl rfl (by omega) (by omega) (run_l tabOk ?_) | refine gs_dt (by first | assumption | omega) ?_ | refine gs_df (by first | assumption | omega) ?_ | refine gs_t (by assumption) ?_ | refine gs_f (by assumption) ?_ | refine gs_d (fun hg => ?_) (fun hg => ?_) | refine gs_n (fun hg => ?_) (fun hg => ?_) | refine gs_nb (fun hg => ?_) (fun hg => ?_) | refine gs_b (fun hg => ?_) (fun hg => ?_)) <;> conv => whnf) | refine fin1 rfl rfl ?_))
        refine wl_alloc tabOk rfl rfl rfl rfl rfl rfl ?_
        intro g10 u1 hm1
        refine wl_Sa tabOk hm1.blk rfl rfl rfl rfl rfl (by simp [Value.oneCell']) rfl rfl ?_
        intro u2 hq2
        have hBu : Below wo.heap.size wo u2 := hq2.below hm1.below (by have := hm1.at_; omega) (by have := hm1.size; omega)
        have hb10 := hq2.blk
        have hr10 : g10 ∉ rb := not_mem_new hMo (by have := hm1.at_; omega)
        have hb1u := blk_up hBu hb1o
        have hb7u := blk_up hBu hb7o
        have hMu := hMo.up hBu
        have hKu := hKo.up hBu
        have hwu := bup hwo hBu
        clear hm1 hq2
        obtain ⟨ad, rfl, hcp⟩ := hMu.cells (i := c.a.toNat) (by omega)
        have hbit := hMu.bit (i := c.a.toNat) (o := k) (by omega) hkl
        have getP : ∀ N : Mat, LeM Mk N → mg Mk c.a.toNat k = true → closedL xs ys N → objP c x N := fun N hN hm h => by
          have h5 := (h i hil)
          rw [hyc.out] at h5
          have := h5.2.2 hkn1 hkn2 k hkl (hN _ _ (by rw [hsrc]; exact hm))
          rwa [hxx.out] at this
        refine run_l tabOk ?_
        conv => whnf
        cases hm : mg Mk c.a.toNat k with
        | false =>
          rw [hm] at hbit
          (repeat' (first | (refine wl_Lg tabOk hb7u rfl rfl rfl rfl rfl rfl rfl (run_l tabOk ?_); conv => whnf) | (refine wl_Lg tabOk hb10 rfl rfl rfl rfl rfl rfl rfl (run_l tabOk ?_); conv => whnf) | (refine wl_L tabOk rfl rfl rfl rfl rfl rfl hcp (run_l tabOk ?_); conv => whnf) | (refine wl_L tabOk rfl rfl rfl rfl rfl rfl hbit (run_l tabOk ?_); conv => whnf) | (refine wl_X tabOk 34 1 rfl rfl rfl rfl rfl rfl rfl (by omega) (by omega) (run_l tabOk ?_); conv => whnf) | (refine wl_Xn tabOk 4 1 rfl rfl rfl rfl rfl rfl rfl (by omega) (run_l tabOk ?_); conv => whnf) | ((first | refine wl_add rfl rfl rfl rfl rfl rfl (by omega) (by omega) (run_l tabOk ?_) | refine wl_sub rfl rfl rfl rfl rfl rfl (by omega) (by omega) (run_l tabOk ?_) | refine wl_cvA tabOk rfl rfl rfl (by simp only [inK]; omega) rfl rfl rfl (run_l tabOk ?_) | refine wl_cvB tabOk rfl rfl rfl rfl rfl rfl (run_l tabOk ?_) | refine wl_rem rfl rfl rfl rfl rfl rfl (by omega) (by omega) (fun r hr hr0 hr1 hr2 => run_l tabOk ?_) | refine wl_quo rfl rfl rfl rfl rfl rfl (by omega) (by omega) (by simp only [inK]; omega) (run_l tabOk ?_) | refine wl_mul rfl rfl rfl rfl rfl rfl (by omega) (by omega) (run_l tabOk ?_) | refine gs_dt (by first | assumption | omega) ?_ | refine gs_df (by first | assumption | omega) ?_ | refine gs_t (by assumption) ?_ | refine gs_f (by assumption) ?_ | refine gs_d (fun hg => ?_) (fun hg => ?_) | refine gs_n (fun hg => ?_) (fun hg => ?_) | refine gs_nb (fun hg => ?_) (fun hg => ?_) | refine gs_b (fun hg => ?_) (fun hg => ?_)) <;> conv => whnf) | refine fin1 rfl rfl ?_))
          exact ⟨(k + 1, Mk, bk), ⟨rfl, rfl, rfl, rfl, rfl, rfl, rfl, trivial⟩, ⟨by simp only; omega, hMu, hKu, hTo.weak fun _ e q => ⟨q.1, objsTo_next q.2 fun h => by rw [hsrc, ← e, hm] at h; cases h⟩⟩, by simp only; omega⟩
        | true =>
          rw [hm] at hbit
          by_cases hff : (x.fn = true ↔ c.k = 5)
          · have hk4 : c.k = 4 := by assumption
            have hfn : x.fn = false := by cases hfn : x.fn with | false => rfl | true => exact absurd (hff.1 hfn) (by omega)
            have hbn := hcb (by omega)
            rw [hfn] at hb10
            (repeat' (first | (refine wl_Lg tabOk hb7u rfl rfl rfl rfl rfl rfl rfl (run_l tabOk ?_); conv => whnf) | (refine wl_Lg tabOk hb10 rfl rfl rfl rfl rfl rfl rfl (run_l tabOk ?_); conv => whnf) | (refine wl_L tabOk rfl rfl rfl rfl rfl rfl hcp (run_l tabOk ?_); conv => whnf) | (refine wl_L tabOk rfl rfl rfl rfl rfl rfl hbit (run_l tabOk ?_); conv => whnf) | (refine wl_X tabOk 34 1 rfl rfl rfl rfl rfl rfl rfl (by omega) (by omega) (run_l tabOk ?_); conv => whnf) | (refine wl_Xn tabOk 4 1 rfl rfl rfl rfl rfl rfl rfl (by omega) (run_l tabOk ?_); conv => whnf) | ((first | refine wl_add rfl rfl rfl rfl rfl rfl (by omega) (by omega) (run_l tabOk ?_) | refine wl_sub rfl rfl rfl rfl rfl rfl (by omega) (by omega) (run_l tabOk ?_) | refine wl_cvA tabOk rfl rfl rfl (by simp only [inK]; omega) rfl rfl rfl (run_l tabOk ?_) | refine wl_cvB tabOk rfl rfl rfl rfl rfl rfl (run_l tabOk ?_) | refine wl_rem rfl rfl rfl rfl rfl rfl (by omega) (by omega) (fun r hr hr0 hr1 hr2 => run_l tabOk ?_) | refine wl_quo rfl rfl rfl rfl rfl rfl (by omega) (by omega) (by simp only [inK]; omega) (run_l tabOk ?_) | refine wl_mul rfl rfl rfl rfl rfl rfl (by omega) (by omega) (run_l tabOk ?_) | refine gs_dt (by first | assumption | omega) ?_ | refine gs_df (by first | assumption | omega) ?_ | refine gs_t (by assumption) ?_ | refine gs_f (by assumption) ?_ | refine gs_d (fun hg => ?_) (fun hg => ?_) | refine gs_n (fun hg => ?_) (fun hg => ?_) | refine gs_nb (fun hg => ?_) (fun hg => ?_) | refine gs_b (fun hg => ?_) (fun hg => ?_)) <;> conv => whnf) | refine fin1 rfl rfl ?_))
            all_goals try (exfalso; rw [show decide (c.k = 5) = false by simp; omega] at hg; exact absurd hg (by decide))
            refine wl_C fn60 (refFlow Mk rb n xs.length base (some ad) cap x.v c.b u2 hMu (by omega) (by omega) (by omega)) rfl rfl rfl rfl rfl rfl rfl ?_
            rintro _ u3 ⟨M4, b4, rfl, hM4, hK4, hT4⟩
            have hT5 := hTo.step hM.sh hT4 (fun N hN h => (getP N hN hm h).2.1 hk4 hfn) (Q' := consTo xs ys i M ∧ objsTo xs c (k + 1) M) (fun q h => ⟨q.1, objsTo_next q.2 fun _ => by rw [hxx.out]; exact ⟨fun h => by omega, fun _ _ => h, fun h => by omega⟩⟩)
            refine ⟨_, rfl, run_l tabOk ?_⟩
            conv => whnf
            (repeat' (first | ((first | refine wl_add rfl rfl rfl rfl rfl rfl (by omega) (by omega) (run_l tabOk ?_) | refine wl_sub rfl rfl rfl rfl rfl rfl (by omega) (by omega) (run_l tabOk ?_) | refine wl_cvA tabOk rfl rfl rfl (by simp only [inK]; omega) rfl rfl rfl (run_l tabOk ?_) | refine wl_cvB tabOk rfl rfl rfl rfl rfl rfl (run_l tabOk ?_) | refine wl_rem rfl rfl rfl rfl rfl rfl (by omega) (by omega) (fun r hr hr0 hr1 hr2 => run_l tabOk ?_) | refine wl_quo rfl rfl rfl rfl rfl rfl (by omega) (by omega) (by simp only [inK]; omega) (run_l tabOk ?_) | refine wl_mul rfl rfl rfl rfl rfl rfl (by omega) (by omega) (run_l tabOk ?_) | refine gs_dt (by first | assumption | omega) ?_ | refine gs_df (by first | assumption | omega) ?_ | refine gs_t (by assumption) ?_ | refine gs_f (by assumption) ?_ | refine gs_d (fun hg => ?_) (fun hg => ?_) | refine gs_n (fun hg => ?_) (fun hg => ?_) | refine gs_nb (fun hg => ?_) (fun hg => ?_) | refine gs_b (fun hg => ?_) (fun hg => ?_)) <;> conv => whnf) | refine fin1 rfl rfl ?_))
            · have hb4 : b4 = true := by assumption
              subst hb4
              rw [Bool.or_true] at hT5
              exact ⟨(k + 1, M4, true), ⟨rfl, rfl, rfl, rfl, rfl, rfl, rfl, trivial⟩, ⟨by simp only; omega, hM4, hKu.trans hK4, hT5⟩, by simp only; omega⟩
            · have hb4 : b4 = false := by assumption
              subst hb4
              rw [Bool.or_false] at hT5
              exact ⟨(k + 1, M4, bk), ⟨rfl, rfl, rfl, rfl, rfl, rfl, rfl, trivial⟩, ⟨by simp only; omega, hM4, hKu.trans hK4, hT5⟩, by simp only; omega⟩
          · have hobj : objP c x M := by
              have hk345 : c.k = 3 ∨ c.k = 4 ∨ c.k = 5 := by omega
              refine ⟨fun h h' => ?_, fun h h' => ?_, fun h h' => ?_⟩ <;> exfalso <;> apply hff <;> simp_all
            (repeat' (first | (refine wl_Lg tabOk hb7u rfl rfl rfl rfl rfl rfl rfl (run_l tabOk ?_); conv => whnf) | (refine wl_Lg tabOk hb10 rfl rfl rfl rfl rfl rfl rfl (run_l tabOk ?_); conv => whnf) | (refine wl_L tabOk rfl rfl rfl rfl rfl rfl hcp (run_l tabOk ?_); conv => whnf) | (refine wl_L tabOk rfl rfl rfl rfl rfl rfl hbit (run_l tabOk ?_); conv => whnf) | (refine wl_X tabOk 34 1 rfl rfl rfl rfl rfl rfl rfl (by omega) (by omega) (run_l tabOk ?_); conv => whnf) | (refine wl_Xn tabOk 4 1 rfl rfl rfl rfl rfl rfl rfl (by omega) (run_l tabOk ?_); conv => whnf) | ((first | refine wl_add rfl rfl rfl rfl rfl rfl (by omega) (by omega) (run_l tabOk ?_) | refine wl_sub rfl rfl rfl rfl rfl rfl (by omega) (by omega) (run_l tabOk ?_) | refine wl_cvA tabOk rfl rfl rfl (by simp only [inK]; omega) rfl rfl rfl (run_l tabOk ?_) | refine wl_cvB tabOk rfl rfl rfl rfl rfl rfl (run_l tabOk ?_) | refine wl_rem rfl rfl rfl rfl rfl rfl (by omega) (by omega) (fun r hr hr0 hr1 hr2 => run_l tabOk ?_) | refine wl_quo rfl rfl rfl rfl rfl rfl (by omega) (by omega) (by simp only [inK]; omega) (run_l tabOk ?_) | refine wl_mul rfl rfl rfl rfl rfl rfl (by omega) (by omega) (run_l tabOk ?_) | refine gs_dt (by first | assumption | omega) ?_ | refine gs_df (by first | assumption | omega) ?_ | refine gs_t (by assumption) ?_ | refine gs_f (by assumption) ?_ | refine gs_d (fun hg => ?_) (fun hg => ?_) | refine gs_n (fun hg => ?_) (fun hg => ?_) | refine gs_nb (fun hg => ?_) (fun hg => ?_) | refine gs_b (fun hg => ?_) (fun hg => ?_)) <;> conv => whnf) | refine fin1 rfl rfl ?_))
            all_goals first
              | exact ⟨(k + 1, Mk, bk), ⟨rfl, rfl, rfl, rfl, rfl, rfl, rfl, trivial⟩, ⟨by simp only; omega, hMu, hKu, hTo.weak fun _ e q => ⟨q.1, objsTo_next q.2 fun _ => by rw [hxx.out]; exact hobj⟩⟩, by simp only; omega⟩
              | (exfalso; apply hff; simp_all; done)
      · have hkn : k = xs.length := by omega
        subst hkn
        (repeat' (first | (refine wl_Lg tabOk hb1o rfl rfl rfl rfl rfl rfl rfl (run_l tabOk ?_); conv => whnf) | ((first | refine wl_add rfl rfl rfl rfl rfl rfl (by omega) (by omega) (run_l tabOk ?_) | refine wl_sub rfl rfl rfl rfl rfl rfl (by omega) (by omega) (run_l tabOk ?_) | refine wl_cvA tabOk rfl rfl rfl (by simp only [inK]; omega) rfl rfl rfl (run_l tabOk ?_) | refine wl_cvB tabOk rfl rfl rfl rfl rfl rfl (run_l tabOk ?_) | refine wl_rem rfl rfl rfl rfl rfl rfl (by omega) (by omega) (fun r hr hr0 hr1 hr2 => run_l tabOk ?_) | refine wl_quo rfl rfl rfl rfl rfl rfl (by omega) (by omega) (by simp only [inK]; omega) (run_l tabOk ?_) | refine wl_mul rfl rfl rfl rfl rfl rfl (by omega) (by omega) (run_l tabOk ?_) | refine gs_dt (by first | assumption | omega) ?_ | refine gs_df (by first | assumption | omega) ?_ | refine gs_t (by assumption) ?_ | refine gs_f (by assumption) ?_ | refine gs_d (fun hg => ?_) (fun hg => ?_) | refine gs_n (fun hg => ?_) (fun hg => ?_) | refine gs_nb (fun hg => ?_) (fun hg => ?_) | refine gs_b (fun hg => ?_) (fun hg => ?_)) <;> conv => whnf) | refine fin1 rfl rfl ?_))
        exact ⟨(i + 1, Mk, bk), ⟨rfl, rfl, rfl, rfl, trivial⟩, ⟨by simp only; omega, hMo, hK7.trans hKo, hTo.weak fun _ _ q => consTo_next q.1 (by rw [hyc.out]; exact ⟨fun h => absurd h hkn1, fun h => absurd h hkn2, fun _ _ o ho hm => q.2 o ho hm⟩)⟩, by simp only; omega⟩
    · have hkn1 : ¬ c.k = 1 := by assumption
      have hkn2 : ¬ c.k = 2 := by assumption
      have hp0 : 0 ≤ c.b ∧ c.b < n := by have := hcb (by omega); omega
      have hsrc : srcOf c = c.b.toNat := by simp only [srcOf]; rw [if_neg (by assumption)]
      refine lp_loop tabOk (X := Nat × Mat × Bool) (fun y => [(1, .slice A n cap), (2, .pointer (some ⟨g1, 0, none⟩)), (5, .bool y.2.2), (6, .int .i64 i), (7, .pointer (some ⟨g7, 0, none⟩)), (8, .int .i64 c.b), (9, .int .i64 y.1)])
        (fun y wo => y.1 ≤ xs.length ∧ BMat base wo A y.2.1 rb n xs.length ∧ Keeps rb w7 wo ∧ Tr n xs.length (closedL xs ys) (consTo xs ys i M ∧ objsTo xs c y.1 M) M y.2.1 y.2.2) (fun y => xs.length - y.1) (0, Mi, bi) ⟨rfl, rfl, rfl, rfl, rfl, rfl, rfl, trivial⟩ ⟨by simp, hM7, Keeps.refl _ _, hT.weak fun _ _ q => ⟨q, fun o ho => by simp at ho⟩⟩ ?_
      rintro ⟨k, Mk, bk⟩ G5 wo ⟨hk, hMo, hKo, hTo⟩
      simp only at hk hMo hKo hTo
      conv => whnf
      have hb1o := hKo.blk hb1 hr1
      have hb7o := hKo.blk hb7 hr7
      have hwo : Below w0.heap.size w0 wo := hKo.low hM7 hw7 hbase
      by_cases hkl : k < xs.length
      · have hgx := hx k hkl
        obtain ⟨x, adx, D, dc, hxx, rfl, ex, _, hxr, _⟩ := cellsE h1 k hkl
        rw [hxx.out] at hgx
        have hv0 := hgx.v0
        have hvn := hgx.v
        have hdl := hxr.out.1
        have hbl := hbr.out.1
        (repeat' (first | (refine wl_Lg tabOk hb1o rfl rfl rfl rfl rfl rfl rfl (run_l tabOk ?_); conv => whnf) | (refine wl_Xn tabOk 44 3 rfl rfl rfl rfl rfl rfl rfl (by omega) (run_l tabOk ?_); conv => whnf) | (refine wl_La tabOk (cellsAt_up hwo ex) rfl rfl rfl rfl rfl rfl (run_l tabOk ?_); conv => whnf) | ((first | refine wl_add rfl rfl rfl rfl rfl rfl (by omega) (by omega) (run_l tabOk ?_) | refine wl_sub rfl rfl rfl rfl rfl rfl (by omega) (by omega) (run_l tabOk ?_) | refine wl_cvA tabOk rfl rfl rfl (by simp only [inK]; omega) rfl rfl rfl (run_l tabOk ?_) | refine wl_cvB tabOk rfl rfl rfl rfl rfl rfl (run_l tabOk ?_) | refine wl_rem rfl rfl rfl rfl rfl rfl (by omega) (by omega) (fun r hr hr0 hr1 hr2 => run_l tabOk ?_) | refine wl_quo rfl rfl rfl rfl rfl rfl (by omega) (by omega) (by simp only [inK]; omega) (run_l tabOk ?_) | refine wl_mul rfl rfl rfl rfl rfl rfl (by omega) (by omega) (run_l tabOk ?_) | refine gs_dt (by first | assumption | omega) ?_ | refine gs_df (by first | assumption | omega) ?_ | refine gs_t (by assumption) ?_ | refine gs_f (by assumption) ?_ | refine gs_d (fun hg => ?_) (fun hg => ?_) | refine gs_n (fun hg => ?_) (fun hg => ?_) | refine gs_nb (fun hg => ?_) (fun hg => ?_) | refine gs_b (fun hg => ?_) (fun hg => ?_)) <;> conv => whnf) | refine fin1 rfl rfl ?_))
        refine wl_alloc tabOk rfl rfl rfl rfl rfl rfl ?_
        intro g10 u1 hm1
        refine wl_Sa tabOk hm1.blk rfl rfl rfl rfl rfl (by simp [Value.oneCell']) rfl rfl ?_
        intro u2 hq2
        have hBu : Below wo.heap.size wo u2 := hq2.below hm1.below (by have := hm1.at_; omega) (by have := hm1.size; omega)
        have hb10 := hq2.blk
        have hr10 : g10 ∉ rb := not_mem_new hMo (by have := hm1.at_; omega)
        have hb1u := blk_up hBu hb1o
        have hb7u := blk_up hBu hb7o
        have hMu := hMo.up hBu
        have hKu := hKo.up hBu
        have hwu := bup hwo hBu
        clear hm1 hq2
        obtain ⟨ad, rfl, hcp⟩ := hMu.cells (i := c.b.toNat) (by omega)
        have hbit := hMu.bit (i := c.b.toNat) (o := k) (by omega) hkl
        have getP : ∀ N : Mat, LeM Mk N → mg Mk c.b.toNat k = true → closedL xs ys N → objP c x N := fun N hN hm h => by
          have h5 := (h i hil)
          rw [hyc.out] at h5
          have := h5.2.2 hkn1 hkn2 k hkl (hN _ _ (by rw [hsrc]; exact hm))
          rwa [hxx.out] at this
        refine run_l tabOk ?_
        conv => whnf
        cases hm : mg Mk c.b.toNat k with
        | false =>
          rw [hm] at hbit
          (repeat' (first | (refine wl_Lg tabOk hb7u rfl rfl rfl rfl rfl rfl rfl (run_l tabOk ?_); conv => whnf) | (refine wl_Lg tabOk hb10 rfl rfl rfl rfl rfl rfl rfl (run_l tabOk ?_); conv => whnf) | (refine wl_L tabOk rfl rfl rfl rfl rfl rfl hcp (run_l tabOk ?_); conv => whnf) | (refine wl_L tabOk rfl rfl rfl rfl rfl rfl hbit (run_l tabOk ?_); conv => whnf) | (refine wl_X tabOk 34 1 rfl rfl rfl rfl rfl rfl rfl (by omega) (by omega) (run_l tabOk ?_); conv => whnf) | (refine wl_Xn tabOk 4 1 rfl rfl rfl rfl rfl rfl rfl (by omega) (run_l tabOk ?_); conv => whnf) | ((first | refine wl_add rfl rfl rfl rfl rfl rfl (by omega) (by omega) (run_l tabOk ?_) | refine wl_sub rfl rfl rfl rfl rfl rfl (by omega) (by omega) (run_l tabOk ?_) | refine wl_cvA tabOk rfl rfl rfl (by simp only [inK]; omega) rfl rfl rfl (run_l tabOk ?_) | refine wl_cvB tabOk rfl rfl rfl rfl rfl rfl (run_l tabOk ?_) | refine wl_rem rfl rfl rfl rfl rfl rfl (by omega) (by omega) (fun r hr hr0 hr1 hr2 => run_l tabOk ?_) | refine wl_quo rfl rfl rfl rfl rfl rfl (by omega) (by omega) (by simp only [inK]; omega) (run_l tabOk ?_) | refine wl_mul rfl rfl rfl rfl rfl rfl (by omega) (by omega) (run_l tabOk ?_) | refine gs_dt (by first | assumption | omega) ?_ | refine gs_df (by first | assumption | omega) ?_ | refine gs_t (by assumption) ?_ | refine gs_f (by assumption) ?_ | refine gs_d (fun hg => ?_) (fun hg => ?_) | refine gs_n (fun hg => ?_) (fun hg => ?_) | refine gs_nb (fun hg => ?_) (fun hg => ?_) | refine gs_b (fun hg => ?_) (fun hg => ?_)) <;> conv => whnf) | refine fin1 rfl rfl ?_))
          exact ⟨(k + 1, Mk, bk), ⟨rfl, rfl, rfl, rfl, rfl, rfl, rfl, trivial⟩, ⟨by simp only; omega, hMu, hKu, hTo.weak fun _ e q => ⟨q.1, objsTo_next q.2 fun h => by rw [hsrc, ← e, hm] at h; cases h⟩⟩, by simp only; omega⟩
        | true =>
          rw [hm] at hbit
          by_cases hff : (x.fn = true ↔ c.k = 5)
          · by_cases hk3 : c.k = 3
            · have hfn : x.fn = false := by cases hfn : x.fn with | false => rfl | true => exact absurd (hff.1 hfn) (by omega)
              have hbn := hcb (by omega)
              rw [hfn] at hb10
              (repeat' (first | (refine wl_Lg tabOk hb7u rfl rfl rfl rfl rfl rfl rfl (run_l tabOk ?_); conv => whnf) | (refine wl_Lg tabOk hb10 rfl rfl rfl rfl rfl rfl rfl (run_l tabOk ?_); conv => whnf) | (refine wl_L tabOk rfl rfl rfl rfl rfl rfl hcp (run_l tabOk ?_); conv => whnf) | (refine wl_L tabOk rfl rfl rfl rfl rfl rfl hbit (run_l tabOk ?_); conv => whnf) | (refine wl_X tabOk 34 1 rfl rfl rfl rfl rfl rfl rfl (by omega) (by omega) (run_l tabOk ?_); conv => whnf) | (refine wl_Xn tabOk 4 1 rfl rfl rfl rfl rfl rfl rfl (by omega) (run_l tabOk ?_); conv => whnf) | ((first | refine wl_add rfl rfl rfl rfl rfl rfl (by omega) (by omega) (run_l tabOk ?_) | refine wl_sub rfl rfl rfl rfl rfl rfl (by omega) (by omega) (run_l tabOk ?_) | refine wl_cvA tabOk rfl rfl rfl (by simp only [inK]; omega) rfl rfl rfl (run_l tabOk ?_) | refine wl_cvB tabOk rfl rfl rfl rfl rfl rfl (run_l tabOk ?_) | refine wl_rem rfl rfl rfl rfl rfl rfl (by omega) (by omega) (fun r hr hr0 hr1 hr2 => run_l tabOk ?_) | refine wl_quo rfl rfl rfl rfl rfl rfl (by omega) (by omega) (by simp only [inK]; omega) (run_l tabOk ?_) | refine wl_mul rfl rfl rfl rfl rfl rfl (by omega) (by omega) (run_l tabOk ?_) | refine gs_dt (by first | assumption | omega) ?_ | refine gs_df (by first | assumption | omega) ?_ | refine gs_t (by assumption) ?_ | refine gs_f (by assumption) ?_ | refine gs_d (fun hg => ?_) (fun hg => ?_) | refine gs_n (fun hg => ?_) (fun hg => ?_) | refine gs_nb (fun hg => ?_) (fun hg => ?_) | refine gs_b (fun hg => ?_) (fun hg => ?_)) <;> conv => whnf) | refine fin1 rfl rfl ?_))
              all_goals try (exfalso; rw [show decide (c.k = 5) = false by simp; omega] at hg; exact absurd hg (by decide))
              refine wl_C fn60 (refFlow Mk rb n xs.length base (some ad) cap c.a x.v u2 hMu (by omega) (by omega) (by omega)) rfl rfl rfl rfl rfl rfl rfl ?_
              rintro _ u3 ⟨M4, b4, rfl, hM4, hK4, hT4⟩
              have hT5 := hTo.step hM.sh hT4 (fun N hN h => (getP N hN hm h).1 hk3 hfn) (Q' := consTo xs ys i M ∧ objsTo xs c (k + 1) M) (fun q h => ⟨q.1, objsTo_next q.2 fun _ => by rw [hxx.out]; exact ⟨fun _ _ => h, fun h => by omega, fun h => by omega⟩⟩)
              refine ⟨_, rfl, run_l tabOk ?_⟩
              conv => whnf
              (repeat' (first | ((first | refine wl_add rfl rfl rfl rfl rfl rfl (by omega) (by omega) (run_l tabOk ?_) | refine wl_sub rfl rfl rfl rfl rfl rfl (by omega) (by omega) (run_l tabOk ?_) | refine wl_cvA tabOk rfl rfl rfl (by simp only [inK]; omega) rfl rfl rfl (run_l tabOk ?_) | refine wl_cvB tabOk rfl rfl rfl rfl rfl rfl (run_l tabOk ?_) | refine wl_rem rfl rfl rfl rfl rfl rfl (by omega) (by omega) (fun r hr hr0 hr1 hr2 => run_l tabOk ?_) | refine wl_quo rfl rfl rfl rfl rfl rfl (by omega) (by omega) (by simp only [inK]; omega) (run_l tabOk ?_) | refine wl_mul rfl rfl rfl rfl rfl rfl (by omega) (by omega) (run_l tabOk ?_) | refine gs_dt (by first | assumption | omega) ?_ | refine gs_df (by first | assumption | omega) ?_ | refine gs_t (by assumption) ?_ | refine gs_f (by assumption) ?_ | refine gs_d (fun hg => ?_) (fun hg => ?_) | refine gs_n (fun hg => ?_) (fun hg => ?_) | refine gs_nb (fun hg => ?_) (fun hg => ?_) | refine gs_b (fun hg => ?_) (fun hg => ?_)) <;> conv => whnf) | refine fin1 rfl rfl ?_))
              · have hb4 : b4 = true := by assumption
                subst hb4
                rw [Bool.or_true] at hT5
                exact ⟨(k + 1, M4, true), ⟨rfl, rfl, rfl, rfl, rfl, rfl, rfl, trivial⟩, ⟨by simp only; omega, hM4, hKu.trans hK4, hT5⟩, by simp only; omega⟩
              · have hb4 : b4 = false := by assumption
                subst hb4
                rw [Bool.or_false] at hT5
                exact ⟨(k + 1, M4, bk), ⟨rfl, rfl, rfl, rfl, rfl, rfl, rfl, trivial⟩, ⟨by simp only; omega, hM4, hKu.trans hK4, hT5⟩, by simp only; omega⟩
            · have hk5 : c.k = 5 := by omega
              have hfn : x.fn = true := hff.2 hk5
              have hxa := hgx.args
              have hcargs := hci.args
              rw [hfn] at hb10
              (repeat' (first | (refine wl_Lg tabOk hb7u rfl rfl rfl rfl rfl rfl rfl (run_l tabOk ?_); conv => whnf) | (refine wl_Lg tabOk hb10 rfl rfl rfl rfl rfl rfl rfl (run_l tabOk ?_); conv => whnf) | (refine wl_L tabOk rfl rfl rfl rfl rfl rfl hcp (run_l tabOk ?_); conv => whnf) | (refine wl_L tabOk rfl rfl rfl rfl rfl rfl hbit (run_l tabOk ?_); conv => whnf) | (refine wl_X tabOk 34 1 rfl rfl rfl rfl rfl rfl rfl (by omega) (by omega) (run_l tabOk ?_); conv => whnf) | (refine wl_Xn tabOk 4 1 rfl rfl rfl rfl rfl rfl rfl (by omega) (run_l tabOk ?_); conv => whnf) | ((first | refine wl_add rfl rfl rfl rfl rfl rfl (by omega) (by omega) (run_l tabOk ?_) | refine wl_sub rfl rfl rfl rfl rfl rfl (by omega) (by omega) (run_l tabOk ?_) | refine wl_cvA tabOk rfl rfl rfl (by simp only [inK]; omega) rfl rfl rfl (run_l tabOk ?_) | refine wl_cvB tabOk rfl rfl rfl rfl rfl rfl (run_l tabOk ?_) | refine wl_rem rfl rfl rfl rfl rfl rfl (by omega) (by omega) (fun r hr hr0 hr1 hr2 => run_l tabOk ?_) | refine wl_quo rfl rfl rfl rfl rfl rfl (by omega) (by omega) (by simp only [inK]; omega) (run_l tabOk ?_) | refine wl_mul rfl rfl rfl rfl rfl rfl (by omega) (by omega) (run_l tabOk ?_) | refine gs_dt (by first | assumption | omega) ?_ | refine gs_df (by first | assumption | omega) ?_ | refine gs_t (by assumption) ?_ | refine gs_f (by assumption) ?_ | refine gs_d (fun hg => ?_) (fun hg => ?_) | refine gs_n (fun hg => ?_) (fun hg => ?_) | refine gs_nb (fun hg => ?_) (fun hg => ?_) | refine gs_b (fun hg => ?_) (fun hg => ?_)) <;> conv => whnf) | refine fin1 rfl rfl ?_))
              all_goals try (exfalso; rw [show decide (c.k = 5) = true by simp; omega] at hg; exact absurd hg (by decide))
              refine wl_C fn60 (refFlow Mk rb n xs.length base (some ad) cap c.a x.v u2 hMu (by omega) (by omega) (by omega)) rfl rfl rfl rfl rfl rfl rfl ?_
              rintro _ u3 ⟨M4, b4, rfl, hM4, hK4, hT4⟩
              have hT5 := hTo.step hM.sh hT4 (fun N hN h => ((getP N hN hm h).2.2 hk5 hfn).1) (Q' := (consTo xs ys i M ∧ objsTo xs c k M) ∧ argsTo c x 0 M) (fun q h => ⟨q, h, fun k hk => by simp at hk⟩)
              have hb1u := hK4.blk hb1u hr1
              have hb7u := hK4.blk hb7u hr7
              have hb10 := hK4.blk hb10 hr10
              have hKu := hKu.trans hK4
              have hw3 := hK4.low hMu hwu hbase
              have hle4 := hT4.le
              refine ⟨_, rfl, run_l tabOk ?_⟩
              conv => whnf
              obtain ⟨bb, hbb⟩ : ∃ bb, bb = (bk || b4) := ⟨_, rfl⟩
              rw [← hbb] at hT5
              (repeat' (first | ((first | refine wl_add rfl rfl rfl rfl rfl rfl (by omega) (by omega) (run_l tabOk ?_) | refine wl_sub rfl rfl rfl rfl rfl rfl (by omega) (by omega) (run_l tabOk ?_) | refine wl_cvA tabOk rfl rfl rfl (by simp only [inK]; omega) rfl rfl rfl (run_l tabOk ?_) | refine wl_cvB tabOk rfl rfl rfl rfl rfl rfl (run_l tabOk ?_) | refine wl_rem rfl rfl rfl rfl rfl rfl (by omega) (by omega) (fun r hr hr0 hr1 hr2 => run_l tabOk ?_) | refine wl_quo rfl rfl rfl rfl rfl rfl (by omega) (by omega) (by simp only [inK]; omega) (run_l tabOk ?_) | refine wl_mul rfl rfl rfl rfl rfl rfl (by omega) (by omega) (run_l tabOk ?_) | refine gs_dt (by first | assumption | omega) ?_ | refine gs_df (by first | assumption | omega) ?_ | refine gs_t (by assumption) ?_ | refine gs_f (by assumption) ?_ | refine gs_d (fun hg => ?_) (fun hg => ?_) | refine gs_n (fun hg => ?_) (fun hg => ?_) | refine gs_nb (fun hg => ?_) (fun hg => ?_) | refine gs_b (fun hg => ?_) (fun hg => ?_)) <;> conv => whnf) | refine fin1 rfl rfl ?_))
              all_goals
                refine lp_loop tabOk (X := Nat × Mat × Bool) (fun y => [(1, .slice (some ad) n cap), (2, .pointer (some ⟨g1, 0, none⟩)), (5, .bool y.2.2), (6, .int .i64 i), (7, .pointer (some ⟨g7, 0, none⟩)), (8, .int .i64 c.b), (9, .int .i64 k), (10, .pointer (some ⟨g10, 0, none⟩)), (11, .int .i64 y.1)])
                  (fun y wa => y.1 ≤ x.args.length ∧ BMat base wa (some ad) y.2.1 rb n xs.length ∧ Keeps rb u3 wa ∧ LeM Mk y.2.1 ∧ Tr n xs.length (closedL xs ys) ((consTo xs ys i M ∧ objsTo xs c k M) ∧ argsTo c x y.1 M) M y.2.1 y.2.2) (fun y => x.args.length - y.1) (0, M4, bb) ⟨rfl, rfl, by rw [hbb]; first | (rw [show b4 = true by assumption, Bool.or_true] <;> rfl) | (rw [show b4 = false by assumption, Bool.or_false] <;> rfl), rfl, rfl, rfl, rfl, rfl, rfl, trivial⟩ ⟨by simp, hM4, Keeps.refl _ _, hle4, hT5⟩ ?_
                rintro ⟨j, Mj, bj⟩ G6 wa ⟨hj, hMa, hKa, hLa, hTa⟩
                simp only at hj hMa hKa hLa hTa
                conv => whnf
                have hb1a := hKa.blk hb1u hr1
                have hb7a := hKa.blk hb7u hr7
                have hb10a := hKa.blk hb10 hr10
                have hwa := hKa.low hM4 hw3 hbase
                by_cases hjl : j < x.args.length
                · by_cases hjc : j < c.args.length
                  · have hpn := hxa j hjl
                    have hqn := hcargs j hjc
                    obtain ⟨p, adp, hpp, rfl, fp, _⟩ := intsE hxr.out j hjl
                    obtain ⟨q, adq, hqq, rfl, fq, _⟩ := intsE hbr.out j hjc
                    rw [hpp.out] at hpn
                    rw [hqq.out] at hqn
                    (repeat' (first | (refine wl_Lg tabOk hb7a rfl rfl rfl rfl rfl rfl rfl (run_l tabOk ?_); conv => whnf) | (refine wl_Lg tabOk hb10a rfl rfl rfl rfl rfl rfl rfl (run_l tabOk ?_); conv => whnf) | ((first | refine wl_add rfl rfl rfl rfl rfl rfl (by omega) (by omega) (run_l tabOk ?_) | refine wl_sub rfl rfl rfl rfl rfl rfl (by omega) (by omega) (run_l tabOk ?_) | refine wl_cvA tabOk rfl rfl rfl (by simp only [inK]; omega) rfl rfl rfl (run_l tabOk ?_) | refine wl_cvB tabOk rfl rfl rfl rfl rfl rfl (run_l tabOk ?_) | refine wl_rem rfl rfl rfl rfl rfl rfl (by omega) (by omega) (fun r hr hr0 hr1 hr2 => run_l tabOk ?_) | refine wl_quo rfl rfl rfl rfl rfl rfl (by omega) (by omega) (by simp only [inK]; omega) (run_l tabOk ?_) | refine wl_mul rfl rfl rfl rfl rfl rfl (by omega) (by omega) (run_l tabOk ?_) | refine gs_dt (by first | assumption | omega) ?_ | refine gs_df (by first | assumption | omega) ?_ | refine gs_t (by assumption) ?_ | refine gs_f (by assumption) ?_ | refine gs_d (fun hg => ?_) (fun hg => ?_) | refine gs_n (fun hg => ?_) (fun hg => ?_) | refine gs_nb (fun hg => ?_) (fun hg => ?_) | refine gs_b (fun hg => ?_) (fun hg => ?_)) <;> conv => whnf) | refine fin1 rfl rfl ?_))
                    have kb7 : ∀ w', Keeps rb wa w' → w'.heap[g7]? = _ := fun w' h => h.blk hb7a hr7
                    have kb10 : ∀ w', Keeps rb wa w' → w'.heap[g10]? = _ := fun w' h => h.blk hb10a hr10
                    have kp : ∀ w', Keeps rb wa w' → w'.cell? (adp.add (j * 1)) = some (.int .i64 p) := fun w' h => cell_up (h.low hMa hwa hbase) fp
                    have kq : ∀ w', Keeps rb wa w' → w'.cell? (adq.add (j * 1)) = some (.int .i64 q) := fun w' h => cell_up (h.low hMa hwa hbase) fq
                    refine wc_qx [0, 1, 2, 3, 4, 5, 6, 7, 8, 9, 10] 1 12 (stable_Kw rb wa) tabOk mixed (by kernel_rfl) (Keeps.refl _ _) ?_
                    conv => whnf
                    (repeat' (first | (refine wq_LgC tabOk kb7 rfl rfl rfl rfl rfl rfl rfl (run_q tabOk ?_); conv => whnf) | (refine wq_LgC tabOk kb10 rfl rfl rfl rfl rfl rfl rfl (run_q tabOk ?_); conv => whnf) | (refine wq_LC tabOk kp rfl rfl rfl rfl rfl rfl (run_q tabOk ?_); conv => whnf) | (refine wq_LC tabOk kq rfl rfl rfl rfl rfl rfl (run_q tabOk ?_); conv => whnf) | (refine wq_Xn tabOk 3 1 rfl rfl rfl rfl rfl rfl rfl (by omega) (run_q tabOk ?_); conv => whnf) | ((first | refine wq_add rfl rfl rfl rfl rfl rfl (by omega) (by omega) (run_q tabOk ?_) | refine wq_sub rfl rfl rfl rfl rfl rfl (by omega) (by omega) (run_q tabOk ?_) | refine wq_cvA tabOk rfl rfl rfl (by simp only [inK]; omega) rfl rfl rfl (run_q tabOk ?_) | refine wq_cvB tabOk rfl rfl rfl rfl rfl rfl (run_q tabOk ?_) | refine wq_rem rfl rfl rfl rfl rfl rfl (by omega) (by omega) (fun r hr hr0 hr1 hr2 => run_q tabOk ?_) | refine wq_quo rfl rfl rfl rfl rfl rfl (by omega) (by omega) (by simp only [inK]; omega) (run_q tabOk ?_) | refine wq_mul rfl rfl rfl rfl rfl rfl (by omega) (by omega) (run_q tabOk ?_) | refine gs_dt (by first | assumption | omega) ?_ | refine gs_df (by first | assumption | omega) ?_ | refine gs_t (by assumption) ?_ | refine gs_f (by assumption) ?_ | refine gs_d (fun hg => ?_) (fun hg => ?_) | refine gs_n (fun hg => ?_) (fun hg => ?_) | refine gs_nb (fun hg => ?_) (fun hg => ?_) | refine gs_b (fun hg => ?_) (fun hg => ?_)) <;> conv => whnf)))
                    intro v1 hv1 hbv1
                    conv => whnf
                    refine ⟨?_, trivial⟩
                    conv => whnf
                    refine wb_C fn60 (refFlow Mj rb n xs.length base (some ad) cap p q v1 (hMa.up hbv1) (by omega) (by omega) (by omega)) rfl rfl rfl rfl rfl rfl ?_
                    rintro _ v2 ⟨M5, b5, rfl, hM5, hK5, hT6⟩
                    have hT7 := hTa.step hM.sh hT6 (fun N hN h => by have := ((getP N (hLa.trans hN) hm h).2.2 hk5 hfn).2 j hjl hjc; rwa [hpp.out, hqq.out] at this) (Q' := (consTo xs ys i M ∧ objsTo xs c k M) ∧ argsTo c x (j + 1) M) (fun q h => ⟨q.1, argsTo_next q.2 fun _ _ => by rw [hpp.out, hqq.out]; exact h⟩)
                    refine ⟨_, rfl, hv1.trans hK5, fun v3 hbv3 hv3 => ?_⟩
                    conv => whnf
                    (repeat' (first | ((first | refine wl_add rfl rfl rfl rfl rfl rfl (by omega) (by omega) (run_l tabOk ?_) | refine wl_sub rfl rfl rfl rfl rfl rfl (by omega) (by omega) (run_l tabOk ?_) | refine wl_cvA tabOk rfl rfl rfl (by simp only [inK]; omega) rfl rfl rfl (run_l tabOk ?_) | refine wl_cvB tabOk rfl rfl rfl rfl rfl rfl (run_l tabOk ?_) | refine wl_rem rfl rfl rfl rfl rfl rfl (by omega) (by omega) (fun r hr hr0 hr1 hr2 => run_l tabOk ?_) | refine wl_quo rfl rfl rfl rfl rfl rfl (by omega) (by omega) (by simp only [inK]; omega) (run_l tabOk ?_) | refine wl_mul rfl rfl rfl rfl rfl rfl (by omega) (by omega) (run_l tabOk ?_) | refine gs_dt (by first | assumption | omega) ?_ | refine gs_df (by first | assumption | omega) ?_ | refine gs_t (by assumption) ?_ | refine gs_f (by assumption) ?_ | refine gs_d (fun hg => ?_) (fun hg => ?_) | refine gs_n (fun hg => ?_) (fun hg => ?_) | refine gs_nb (fun hg => ?_) (fun hg => ?_) | refine gs_b (fun hg => ?_) (fun hg => ?_)) <;> conv => whnf) | refine fin1 rfl rfl ?_))
                    · have hb5 : b5 = true := by assumption
                      subst hb5
                      rw [Bool.or_true] at hT7
                      exact ⟨(j + 1, M5, true), ⟨rfl, rfl, rfl, rfl, rfl, rfl, rfl, rfl, rfl, trivial⟩, ⟨by simp only; omega, hM5.up hbv3, hKa.trans hv3, hLa.trans hT6.le, hT7⟩, by simp only; omega⟩
                    · have hb5 : b5 = false := by assumption
                      subst hb5
                      rw [Bool.or_false] at hT7
                      exact ⟨(j + 1, M5, bj), ⟨rfl, rfl, rfl, rfl, rfl, rfl, rfl, rfl, rfl, trivial⟩, ⟨by simp only; omega, hM5.up hbv3, hKa.trans hv3, hLa.trans hT6.le, hT7⟩, by simp only; omega⟩
                  · (repeat' (first | (refine wl_Lg tabOk hb7a rfl rfl rfl rfl rfl rfl rfl (run_l tabOk ?_); conv => whnf) | (refine wl_Lg tabOk hb10a rfl rfl rfl rfl rfl rfl rfl (run_l tabOk ?_); conv => whnf) | ((first | refine wl_add rfl rfl rfl rfl rfl rfl (by omega) (by omega) (run_l tabOk ?_) | refine wl_sub rfl rfl rfl rfl rfl rfl (by omega) (by omega) (run_l tabOk ?_) | refine wl_cvA tabOk rfl rfl rfl (by simp only [inK]; omega) rfl rfl rfl (run_l tabOk ?_) | refine wl_cvB tabOk rfl rfl rfl rfl rfl rfl (run_l tabOk ?_) | refine wl_rem rfl rfl rfl rfl rfl rfl (by omega) (by omega) (fun r hr hr0 hr1 hr2 => run_l tabOk ?_) | refine wl_quo rfl rfl rfl rfl rfl rfl (by omega) (by omega) (by simp only [inK]; omega) (run_l tabOk ?_) | refine wl_mul rfl rfl rfl rfl rfl rfl (by omega) (by omega) (run_l tabOk ?_) | refine gs_dt (by first | assumption | omega) ?_ | refine gs_df (by first | assumption | omega) ?_ | refine gs_t (by assumption) ?_ | refine gs_f (by assumption) ?_ | refine gs_d (fun hg => ?_) (fun hg => ?_) | refine gs_n (fun hg => ?_) (fun hg => ?_) | refine gs_nb (fun hg => ?_) (fun hg => ?_) | refine gs_b (fun hg => ?_) (fun hg => ?_)) <;> conv => whnf) | refine fin1 rfl rfl ?_))
                    exact ⟨(k + 1, Mj, bj), ⟨rfl, rfl, rfl, rfl, rfl, rfl, rfl, trivial⟩, ⟨by simp only; omega, hMa, hKu.trans hKa, hTa.weak fun _ _ q => ⟨q.1.1, objsTo_next q.1.2 fun _ => by rw [hxx.out]; exact ⟨fun h => by omega, fun h => by omega, fun _ _ => ⟨q.2.1, fun k hk1 hk2 => q.2.2 k (by omega) hk1 hk2⟩⟩⟩⟩, by simp only; omega⟩
                · (repeat' (first | (refine wl_Lg tabOk hb7a rfl rfl rfl rfl rfl rfl rfl (run_l tabOk ?_); conv => whnf) | (refine wl_Lg tabOk hb10a rfl rfl rfl rfl rfl rfl rfl (run_l tabOk ?_); conv => whnf) | ((first | refine wl_add rfl rfl rfl rfl rfl rfl (by omega) (by omega) (run_l tabOk ?_) | refine wl_sub rfl rfl rfl rfl rfl rfl (by omega) (by omega) (run_l tabOk ?_) | refine wl_cvA tabOk rfl rfl rfl (by simp only [inK]; omega) rfl rfl rfl (run_l tabOk ?_) | refine wl_cvB tabOk rfl rfl rfl rfl rfl rfl (run_l tabOk ?_) | refine wl_rem rfl rfl rfl rfl rfl rfl (by omega) (by omega) (fun r hr hr0 hr1 hr2 => run_l tabOk ?_) | refine wl_quo rfl rfl rfl rfl rfl rfl (by omega) (by omega) (by simp only [inK]; omega) (run_l tabOk ?_) | refine wl_mul rfl rfl rfl rfl rfl rfl (by omega) (by omega) (run_l tabOk ?_) | refine gs_dt (by first | assumption | omega) ?_ | refine gs_df (by first | assumption | omega) ?_ | refine gs_t (by assumption) ?_ | refine gs_f (by assumption) ?_ | refine gs_d (fun hg => ?_) (fun hg => ?_) | refine gs_n (fun hg => ?_) (fun hg => ?_) | refine gs_nb (fun hg => ?_) (fun hg => ?_) | refine gs_b (fun hg => ?_) (fun hg => ?_)) <;> conv => whnf) | refine fin1 rfl rfl ?_))
                  exact ⟨(k + 1, Mj, bj), ⟨rfl, rfl, rfl, rfl, rfl, rfl, rfl, trivial⟩, ⟨by simp only; omega, hMa, hKu.trans hKa, hTa.weak fun _ _ q => ⟨q.1.1, objsTo_next q.1.2 fun _ => by rw [hxx.out]; exact ⟨fun h => by omega, fun h => by omega, fun _ _ => ⟨q.2.1, fun k hk1 hk2 => q.2.2 k (by omega) hk1 hk2⟩⟩⟩⟩, by simp only; omega⟩
          · have hobj : objP c x M := by
              have hk345 : c.k = 3 ∨ c.k = 4 ∨ c.k = 5 := by omega
              refine ⟨fun h h' => ?_, fun h h' => ?_, fun h h' => ?_⟩ <;> exfalso <;> apply hff <;> simp_all
            (repeat' (first | (refine wl_Lg tabOk hb7u rfl rfl rfl rfl rfl rfl rfl (run_l tabOk ?_); conv => whnf) | (refine wl_Lg tabOk hb10 rfl rfl rfl rfl rfl rfl rfl (run_l tabOk ?_); conv => whnf) | (refine wl_L tabOk rfl rfl rfl rfl rfl rfl hcp (run_l tabOk ?_); conv => whnf) | (refine wl_L tabOk rfl rfl rfl rfl rfl rfl hbit (run_l tabOk ?_); conv => whnf) | (refine wl_X tabOk 34 1 rfl rfl rfl rfl rfl rfl rfl (by omega) (by omega) (run_l tabOk ?_); conv => whnf) | (refine wl_Xn tabOk 4 1 rfl rfl rfl rfl rfl rfl rfl (by omega) (run_l tabOk ?_); conv => whnf) | ((first | refine wl_add rfl rfl rfl rfl rfl rfl (by omega) (by omega) (run_l tabOk ?_) | refine wl_sub rfl rfl rfl rfl rfl rfl (by omega) (by omega) (run_l tabOk ?_) | refine wl_cvA tabOk rfl rfl rfl (by simp only [inK]; omega) rfl rfl rfl (run_l tabOk ?_) | refine wl_cvB tabOk rfl rfl rfl rfl rfl rfl (run_l tabOk ?_) | refine wl_rem rfl rfl rfl rfl rfl rfl (by omega) (by omega) (fun r hr hr0 hr1 hr2 => run_l tabOk ?_) | refine wl_quo rfl rfl rfl rfl rfl rfl (by omega) (by omega) (by simp only [inK]; omega) (run_l tabOk ?_) | refine wl_mul rfl rfl rfl rfl rfl rfl (by omega) (by omega) (run_l tabOk ?_) | refine gs_dt (by first | assumption | omega) ?_ | refine gs_df (by first | assumption | omega) ?_ | refine gs_t (by assumption) ?_ | refine gs_f (by assumption) ?_ | refine gs_d (fun hg => ?_) (fun hg => ?_) | refine gs_n (fun hg => ?_) (fun hg => ?_) | refine gs_nb (fun hg => ?_) (fun hg => ?_) | refine gs_b (fun hg => ?_) (fun hg => ?_)) <;> conv => whnf) | refine fin1 rfl rfl ?_))
            all_goals first
              | exact ⟨(k + 1, Mk, bk), ⟨rfl, rfl, rfl, rfl, rfl, rfl, rfl, trivial⟩, ⟨by simp only; omega, hMu, hKu, hTo.weak fun _ e q => ⟨q.1, objsTo_next q.2 fun _ => by rw [hxx.out]; exact hobj⟩⟩, by simp only; omega⟩
              | (exfalso; apply hff; simp_all; done)
      · have hkn : k = xs.length := by omega
        subst hkn
        (repeat' (first | (refine wl_Lg tabOk hb1o rfl rfl rfl rfl rfl rfl rfl (run_l tabOk ?_); conv => whnf) | ((first | refine wl_add rfl rfl rfl rfl rfl rfl (by omega) (by omega) (run_l tabOk ?_) | refine wl_sub rfl rfl rfl rfl rfl rfl (by omega) (by omega) (run_l tabOk ?_) | refine wl_cvA tabOk rfl rfl rfl (by simp only [inK]; omega) rfl rfl rfl (run_l tabOk ?_) | refine wl_cvB tabOk rfl rfl rfl rfl rfl rfl (run_l tabOk ?_) | refine wl_rem rfl rfl rfl rfl rfl rfl (by omega) (by omega) (fun r hr hr0 hr1 hr2 => run_l tabOk ?_) | refine wl_quo rfl rfl rfl rfl rfl rfl (by omega) (by omega) (by simp only [inK]; omega) (run_l tabOk ?_) | refine wl_mul rfl rfl rfl rfl rfl rfl (by omega) (by omega) (run_l tabOk ?_) | refine gs_dt (by first | assumption | omega) ?_ | refine gs_df (by first | assumption | omega) ?_ | refine gs_t (by assumption) ?_ | refine gs_f (by assumption) ?_ | refine gs_d (fun hg => ?_) (fun hg => ?_) | refine gs_n (fun hg => ?_) (fun hg => ?_) | refine gs_nb (fun hg => ?_) (fun hg => ?_) | refine gs_b (fun hg => ?_) (fun hg => ?_)) <;> conv => whnf) | refine fin1 rfl rfl ?_))
        exact ⟨(i + 1, Mk, bk), ⟨rfl, rfl, rfl, rfl, trivial⟩, ⟨by simp only; omega, hMo, hK7.trans hKo, hTo.weak fun _ _ q => consTo_next q.1 (by rw [hyc.out]; exact ⟨fun h => absurd h hkn1, fun h => absurd h hkn2, fun _ _ o ho hm => q.2 o ho hm⟩)⟩, by simp only; omega⟩
  · (repeat' (first | (refine wl_Lg tabOk hb1r rfl rfl rfl rfl rfl rfl rfl (run_l tabOk ?_); conv => whnf) | ((first | refine wl_add rfl rfl rfl rfl rfl rfl (by omega) (by omega) (run_l tabOk ?_) | refine wl_sub rfl rfl rfl rfl rfl rfl (by omega) (by omega) (run_l tabOk ?_) | refine wl_cvA tabOk rfl rfl rfl (by simp only [inK]; omega) rfl rfl rfl (run_l tabOk ?_) | refine wl_cvB tabOk rfl rfl rfl rfl rfl rfl (run_l tabOk ?_) | refine wl_rem rfl rfl rfl rfl rfl rfl (by omega) (by omega) (fun r hr hr0 hr1 hr2 => run_l tabOk ?_) | refine wl_quo rfl rfl rfl rfl rfl rfl (by omega) (by omega) (by simp only [inK]; omega) (run_l tabOk ?_) | refine wl_mul rfl rfl rfl rfl rfl rfl (by omega) (by omega) (run_l tabOk ?_) | refine gs_dt (by first | assumption | omega) ?_ | refine gs_df (by first | assumption | omega) ?_ | refine gs_t (by assumption) ?_ | refine gs_f (by assumption) ?_ | refine gs_d (fun hg => ?_) (fun hg => ?_) | refine gs_n (fun hg => ?_) (fun hg => ?_) | refine gs_nb (fun hg => ?_) (fun hg => ?_) | refine gs_b (fun hg => ?_) (fun hg => ?_)) <;> conv => whnf) | refine fin1 rfl rfl ?_))
    exact ⟨Mi, bi, rfl, hMr, hK1.trans hKr, hT.weak fun _ _ q j hj => q j (by omega)⟩
end Go.Proofs.Ytjggjhgbobmkhaa
