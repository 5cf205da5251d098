/- least.add, the reference's Flow: all of one row comes into another one. -/
import Derived.Test.YtkmnhkfgjadppaaEM
namespace Go.Proofs.Ytkmnhkfgjadppaa
open Go.RowKit
set_option linter.unusedVariables false
set_option linter.unusedSimpArgs false
set_option maxRecDepth 100000
def flowTo (M : Mat) (t f k : Nat) : Prop := ∀ o, o < k → mg M f o = true → mg M t o = true
section
variable {n nc : Nat} {tt fr : Int} {M M' : Mat} {b : Bool} {k : Nat}
theorem flow_set (hM : Shape n nc M) (hT : Tr n nc (flowP tt fr) (flowTo M tt.toNat fr.toNat k) M M' b) (h0 : 0 ≤ tt) (h1 : 0 ≤ fr) (ht : tt < n) (hk : k < nc) (hy : mg M' fr.toNat k = true) (hno : mg M' tt.toNat k = false) :
    Tr n nc (flowP tt fr) (flowTo M tt.toNat fr.toNat (k + 1)) M (setT M' tt.toNat k) true := by
  have h2 : Tr n nc (fun N => mg N fr.toNat k = true → mg N tt.toNat k = true) (mg M' fr.toNat k = true → mg M' tt.toNat k = true) M' (setT M' tt.toNat k) true :=
    Tr.one hT.sh (by omega) hk hno fun N hN hp => hp (hN _ _ hy)
  have := hT.step hM h2 (fun N _ hp => hp h0 h1 k) (Q' := flowTo M tt.toNat fr.toNat (k + 1)) (fun q p o ho hm => by
    rcases Nat.lt_or_ge o k with h | h
    · exact q o h hm
    · have : o = k := by omega
      subst this
      exact p hm)
  rwa [Bool.or_true] at this
theorem flow_same (hT : Tr n nc (flowP tt fr) (flowTo M tt.toNat fr.toNat k) M M' b) (hn : mg M' fr.toNat k = true → mg M' tt.toNat k = true) : Tr n nc (flowP tt fr) (flowTo M tt.toNat fr.toNat (k + 1)) M M' b :=
  hT.weak fun _ e q o ho hm => by
    rcases Nat.lt_or_ge o k with h | h
    · exact q o h hm
    · have : o = k := by omega
      subst this
      subst e
      exact hn hm
theorem flow_end (hM : Shape n nc M) (hT : Tr n nc (flowP tt fr) (flowTo M tt.toNat fr.toNat nc) M M' b) : Tr n nc (flowP tt fr) (flowP tt fr M) M M' b :=
  hT.weak fun _ _ q _ _ o hm => by
    by_cases ho : o < nc
    · exact q o ho hm
    · rw [mg_out hM (by omega)] at hm
      cases hm
end
theorem leastAdd (M : Mat) (rb : List Nat) (n nc : Nat) (base : Nat) (A : Option Addr) (cap : Nat) (tt fr : Int) (w : World) (hM : BMat base w A M rb n nc) (ht : tt < n) (hf : fr < n) (hnc : nc ≤ 9223372036854775807) :
    Calls Try.prog 30 #[.slice A n cap, .int .i64 tt, .int .i64 fr] w fun e w' => ∃ M' b, e = .returned (.bool b) ∧ BMat base w' A M' rb n nc ∧ Keeps rb w w' ∧ Tr n nc (flowP tt fr) (flowP tt fr M) M M' b := by
  refine enterR (args := [.slice A n cap, .int .i64 tt, .int .i64 fr]) tabOk Try.func30 rfl Try.ntmps30 rfl ?_; conv => whnf
  (repeat' (first | (refine wl_add rfl rfl rfl rfl rfl rfl (by omega) (by omega) (run_l tabOk ?_); conv => whnf) | (refine wl_sub rfl rfl rfl rfl rfl rfl (by omega) (by omega) (run_l tabOk ?_); conv => whnf) | (refine wl_cvA tabOk rfl rfl rfl (by simp only [inK]; omega) rfl rfl rfl (run_l tabOk ?_); conv => whnf) | (refine wl_cvB tabOk rfl rfl rfl rfl rfl rfl (run_l tabOk ?_); conv => whnf) | (refine wl_rem rfl rfl rfl rfl rfl rfl (by omega) (by omega) (fun r hr hr0 hr1 hr2 => run_l tabOk ?_); conv => whnf) | (refine wl_quo rfl rfl rfl rfl rfl rfl (by omega) (by omega) (by simp only [inK]; omega) (run_l tabOk ?_); conv => whnf) | (refine wl_mul rfl rfl rfl rfl rfl rfl (by omega) (by omega) (run_l tabOk ?_); conv => whnf) | (refine gs_dt (by first | assumption | omega) ?_; conv => whnf) | (refine gs_df (by first | assumption | omega) ?_; conv => whnf) | (refine gs_t (by assumption) ?_; conv => whnf) | (refine gs_f (by assumption) ?_; conv => whnf) | (refine gs_d (fun hg => ?_) (fun hg => ?_) <;> conv => whnf) | (refine gs_n (fun hg => ?_) (fun hg => ?_) <;> conv => whnf) | (refine gs_nb (fun hg => ?_) (fun hg => ?_) <;> conv => whnf) | (refine gs_b (fun hg => ?_) (fun hg => ?_) <;> conv => whnf) | refine fin1 rfl rfl ?_))
  all_goals try exact ⟨M, false, rfl, hM, Keeps.refl _ _, Tr.start hM.sh (fun h1 h2 => by omega)⟩
  have h0 : 0 ≤ tt := by omega
  have h1 : 0 ≤ fr := by omega
  obtain ⟨ad, rfl, hca, hc⟩ := hM.cell fr.toNat (by omega)
  (repeat' (first | (refine wl_L tabOk rfl rfl rfl rfl rfl rfl hc (run_l tabOk ?_); conv => whnf) | (refine wl_X tabOk 35 1 rfl rfl rfl rfl rfl rfl rfl (by omega) (by omega) (run_l tabOk ?_); conv => whnf) | (refine wl_add rfl rfl rfl rfl rfl rfl (by omega) (by omega) (run_l tabOk ?_); conv => whnf) | (refine wl_sub rfl rfl rfl rfl rfl rfl (by omega) (by omega) (run_l tabOk ?_); conv => whnf) | (refine wl_cvA tabOk rfl rfl rfl (by simp only [inK]; omega) rfl rfl rfl (run_l tabOk ?_); conv => whnf) | (refine wl_cvB tabOk rfl rfl rfl rfl rfl rfl (run_l tabOk ?_); conv => whnf) | (refine wl_rem rfl rfl rfl rfl rfl rfl (by omega) (by omega) (fun r hr hr0 hr1 hr2 => run_l tabOk ?_); conv => whnf) | (refine wl_quo rfl rfl rfl rfl rfl rfl (by omega) (by omega) (by simp only [inK]; omega) (run_l tabOk ?_); conv => whnf) | (refine wl_mul rfl rfl rfl rfl rfl rfl (by omega) (by omega) (run_l tabOk ?_); conv => whnf) | (refine gs_dt (by first | assumption | omega) ?_; conv => whnf) | (refine gs_df (by first | assumption | omega) ?_; conv => whnf) | (refine gs_t (by assumption) ?_; conv => whnf) | (refine gs_f (by assumption) ?_; conv => whnf) | (refine gs_d (fun hg => ?_) (fun hg => ?_) <;> conv => whnf) | (refine gs_n (fun hg => ?_) (fun hg => ?_) <;> conv => whnf) | (refine gs_nb (fun hg => ?_) (fun hg => ?_) <;> conv => whnf) | (refine gs_b (fun hg => ?_) (fun hg => ?_) <;> conv => whnf) | refine fin1 rfl rfl ?_))
  refine lp_loop tabOk (X := Nat × Mat × Bool) (fun x => [(0, .slice (some ad) n cap), (1, .int .i64 tt), (2, .int .i64 fr), (7, .bool x.2.2), (19, .slice (some ⟨rb[fr.toNat]!, 0, none⟩) nc nc), (20, .int .i64 nc), (21, .int .i64 x.1)])
    (fun x wr => x.1 ≤ nc ∧ BMat base wr (some ad) x.2.1 rb n nc ∧ Keeps rb w wr ∧ Tr n nc (flowP tt fr) (flowTo M tt.toNat fr.toNat x.1) M x.2.1 x.2.2) (fun x => nc - x.1) (0, M, false) ⟨rfl, rfl, rfl, rfl, rfl, rfl, rfl, trivial⟩ ⟨by simp, hM, Keeps.refl _ _, Tr.start hM.sh (fun o ho => by simp at ho)⟩ ?_
  rintro ⟨k, M', b⟩ G wr ⟨hk, hMr, hK, hT⟩
  simp only at hk hMr hK hT
  conv => whnf
  by_cases hlt : k < nc
  · have hbf := hMr.bit (i := fr.toNat) (by omega) hlt
    have hbt := hMr.bit (i := tt.toNat) (by omega) hlt
    obtain ⟨ad2, e2, hct⟩ := hMr.cells (i := tt.toNat) (by omega)
    cases e2
    (repeat' (first | (refine wl_L tabOk rfl rfl rfl rfl rfl rfl hbf (run_l tabOk ?_); conv => whnf) | (refine wl_L tabOk rfl rfl rfl rfl rfl rfl hct (run_l tabOk ?_); conv => whnf) | (refine wl_L tabOk rfl rfl rfl rfl rfl rfl hbt (run_l tabOk ?_); conv => whnf) | (refine wl_Xn tabOk 4 1 rfl rfl rfl rfl rfl rfl rfl (by omega) (run_l tabOk ?_); conv => whnf) | (refine wl_X tabOk 35 1 rfl rfl rfl rfl rfl rfl rfl (by omega) (by omega) (run_l tabOk ?_); conv => whnf) | (refine wl_add rfl rfl rfl rfl rfl rfl (by omega) (by omega) (run_l tabOk ?_); conv => whnf) | (refine wl_sub rfl rfl rfl rfl rfl rfl (by omega) (by omega) (run_l tabOk ?_); conv => whnf) | (refine wl_cvA tabOk rfl rfl rfl (by simp only [inK]; omega) rfl rfl rfl (run_l tabOk ?_); conv => whnf) | (refine wl_cvB tabOk rfl rfl rfl rfl rfl rfl (run_l tabOk ?_); conv => whnf) | (refine wl_rem rfl rfl rfl rfl rfl rfl (by omega) (by omega) (fun r hr hr0 hr1 hr2 => run_l tabOk ?_); conv => whnf) | (refine wl_quo rfl rfl rfl rfl rfl rfl (by omega) (by omega) (by simp only [inK]; omega) (run_l tabOk ?_); conv => whnf) | (refine wl_mul rfl rfl rfl rfl rfl rfl (by omega) (by omega) (run_l tabOk ?_); conv => whnf) | (refine gs_dt (by first | assumption | omega) ?_; conv => whnf) | (refine gs_df (by first | assumption | omega) ?_; conv => whnf) | (refine gs_t (by assumption) ?_; conv => whnf) | (refine gs_f (by assumption) ?_; conv => whnf) | (refine gs_d (fun hg => ?_) (fun hg => ?_) <;> conv => whnf) | (refine gs_n (fun hg => ?_) (fun hg => ?_) <;> conv => whnf) | (refine gs_nb (fun hg => ?_) (fun hg => ?_) <;> conv => whnf) | (refine gs_b (fun hg => ?_) (fun hg => ?_) <;> conv => whnf) | refine fin1 rfl rfl ?_))
    · rename_i hy
      have hno : mg M' tt.toNat k = false := by assumption
      refine wl_Se (j := k * 1) (v := .bool true) tabOk (hMr.blk tt.toNat (by omega)) rfl rfl rfl rfl rfl rfl (by unfold vb; rw [List.length_map, hMr.sh.cols _ (by omega)]; omega) rfl rfl ?_
      intro w1 hp
      rw [Nat.mul_one] at hp
      refine run_l tabOk ?_
      conv => whnf
      (repeat' (first | (refine wl_add rfl rfl rfl rfl rfl rfl (by omega) (by omega) (run_l tabOk ?_); conv => whnf) | (refine wl_sub rfl rfl rfl rfl rfl rfl (by omega) (by omega) (run_l tabOk ?_); conv => whnf) | (refine wl_cvA tabOk rfl rfl rfl (by simp only [inK]; omega) rfl rfl rfl (run_l tabOk ?_); conv => whnf) | (refine wl_cvB tabOk rfl rfl rfl rfl rfl rfl (run_l tabOk ?_); conv => whnf) | (refine wl_rem rfl rfl rfl rfl rfl rfl (by omega) (by omega) (fun r hr hr0 hr1 hr2 => run_l tabOk ?_); conv => whnf) | (refine wl_quo rfl rfl rfl rfl rfl rfl (by omega) (by omega) (by simp only [inK]; omega) (run_l tabOk ?_); conv => whnf) | (refine wl_mul rfl rfl rfl rfl rfl rfl (by omega) (by omega) (run_l tabOk ?_); conv => whnf) | (refine gs_dt (by first | assumption | omega) ?_; conv => whnf) | (refine gs_df (by first | assumption | omega) ?_; conv => whnf) | (refine gs_t (by assumption) ?_; conv => whnf) | (refine gs_f (by assumption) ?_; conv => whnf) | (refine gs_d (fun hg => ?_) (fun hg => ?_) <;> conv => whnf) | (refine gs_n (fun hg => ?_) (fun hg => ?_) <;> conv => whnf) | (refine gs_nb (fun hg => ?_) (fun hg => ?_) <;> conv => whnf) | (refine gs_b (fun hg => ?_) (fun hg => ?_) <;> conv => whnf) | refine fin1 rfl rfl ?_))
      exact ⟨(k + 1, setT M' tt.toNat k, true), ⟨rfl, rfl, rfl, rfl, rfl, rfl, rfl, trivial⟩, ⟨by simp only; omega, hMr.put (by omega) hp, hK.put hp (hMr.mem (by omega)), flow_set hM.sh hT h0 h1 ht hlt (by assumption) hno⟩, by simp only; omega⟩
    all_goals exact ⟨(k + 1, M', b), ⟨rfl, rfl, rfl, rfl, rfl, rfl, rfl, trivial⟩, ⟨by simp only; omega, hMr, hK, flow_same hT (by simp_all)⟩, by simp only; omega⟩
  · have hkn : k = nc := by omega
    subst hkn
    (repeat' (first | (refine wl_add rfl rfl rfl rfl rfl rfl (by omega) (by omega) (run_l tabOk ?_); conv => whnf) | (refine wl_sub rfl rfl rfl rfl rfl rfl (by omega) (by omega) (run_l tabOk ?_); conv => whnf) | (refine wl_cvA tabOk rfl rfl rfl (by simp only [inK]; omega) rfl rfl rfl (run_l tabOk ?_); conv => whnf) | (refine wl_cvB tabOk rfl rfl rfl rfl rfl rfl (run_l tabOk ?_); conv => whnf) | (refine wl_rem rfl rfl rfl rfl rfl rfl (by omega) (by omega) (fun r hr hr0 hr1 hr2 => run_l tabOk ?_); conv => whnf) | (refine wl_quo rfl rfl rfl rfl rfl rfl (by omega) (by omega) (by simp only [inK]; omega) (run_l tabOk ?_); conv => whnf) | (refine wl_mul rfl rfl rfl rfl rfl rfl (by omega) (by omega) (run_l tabOk ?_); conv => whnf) | (refine gs_dt (by first | assumption | omega) ?_; conv => whnf) | (refine gs_df (by first | assumption | omega) ?_; conv => whnf) | (refine gs_t (by assumption) ?_; conv => whnf) | (refine gs_f (by assumption) ?_; conv => whnf) | (refine gs_d (fun hg => ?_) (fun hg => ?_) <;> conv => whnf) | (refine gs_n (fun hg => ?_) (fun hg => ?_) <;> conv => whnf) | (refine gs_nb (fun hg => ?_) (fun hg => ?_) <;> conv => whnf) | (refine gs_b (fun hg => ?_) (fun hg => ?_) <;> conv => whnf) | refine fin1 rfl rfl ?_))
    exact ⟨M', b, rfl, hMr, hK, flow_end hM.sh hT⟩
theorem refFlow (M : Mat) (rb : List Nat) (n nc : Nat) (base : Nat) (A : Option Addr) (cap : Nat) (tt fr : Int) (w : World) (hM : BMat base w A M rb n nc) (ht : tt < n) (hf : fr < n) (hnc : nc ≤ 9223372036854775807) :
    Calls Try.prog 19 #[.slice A n cap, .int .i64 tt, .int .i64 fr] w fun e w' => ∃ M' b, e = .returned (.bool b) ∧ BMat base w' A M' rb n nc ∧ Keeps rb w w' ∧ Tr n nc (flowP tt fr) (flowP tt fr M) M M' b := by
  refine enterR (args := [.slice A n cap, .int .i64 tt, .int .i64 fr]) tabOk Try.func19 rfl Try.ntmps19 rfl ?_; conv => whnf
  (repeat' (first | (refine wl_add rfl rfl rfl rfl rfl rfl (by omega) (by omega) (run_l tabOk ?_); conv => whnf) | (refine wl_sub rfl rfl rfl rfl rfl rfl (by omega) (by omega) (run_l tabOk ?_); conv => whnf) | (refine wl_cvA tabOk rfl rfl rfl (by simp only [inK]; omega) rfl rfl rfl (run_l tabOk ?_); conv => whnf) | (refine wl_cvB tabOk rfl rfl rfl rfl rfl rfl (run_l tabOk ?_); conv => whnf) | (refine wl_rem rfl rfl rfl rfl rfl rfl (by omega) (by omega) (fun r hr hr0 hr1 hr2 => run_l tabOk ?_); conv => whnf) | (refine wl_quo rfl rfl rfl rfl rfl rfl (by omega) (by omega) (by simp only [inK]; omega) (run_l tabOk ?_); conv => whnf) | (refine wl_mul rfl rfl rfl rfl rfl rfl (by omega) (by omega) (run_l tabOk ?_); conv => whnf) | (refine gs_dt (by first | assumption | omega) ?_; conv => whnf) | (refine gs_df (by first | assumption | omega) ?_; conv => whnf) | (refine gs_t (by assumption) ?_; conv => whnf) | (refine gs_f (by assumption) ?_; conv => whnf) | (refine gs_d (fun hg => ?_) (fun hg => ?_) <;> conv => whnf) | (refine gs_n (fun hg => ?_) (fun hg => ?_) <;> conv => whnf) | (refine gs_nb (fun hg => ?_) (fun hg => ?_) <;> conv => whnf) | (refine gs_b (fun hg => ?_) (fun hg => ?_) <;> conv => whnf) | refine fin1 rfl rfl ?_))
  all_goals try exact ⟨M, false, rfl, hM, Keeps.refl _ _, Tr.start hM.sh (fun h1 h2 => by omega)⟩
  have h0 : 0 ≤ tt := by omega
  have h1 : 0 ≤ fr := by omega
  obtain ⟨ad, rfl, hca, hc⟩ := hM.cell fr.toNat (by omega)
  refine lp_loop tabOk (X := Nat × Mat × Bool) (fun x => [(0, .slice (some ad) n cap), (1, .int .i64 tt), (2, .int .i64 fr), (7, .bool x.2.2), (8, .int .i64 x.1)])
    (fun x wr => x.1 ≤ nc ∧ BMat base wr (some ad) x.2.1 rb n nc ∧ Keeps rb w wr ∧ Tr n nc (flowP tt fr) (flowTo M tt.toNat fr.toNat x.1) M x.2.1 x.2.2) (fun x => nc - x.1) (0, M, false) ⟨rfl, rfl, rfl, rfl, rfl, trivial⟩ ⟨by simp, hM, Keeps.refl _ _, Tr.start hM.sh (fun o ho => by simp at ho)⟩ ?_
  rintro ⟨k, M', b⟩ G wr ⟨hk, hMr, hK, hT⟩
  simp only at hk hMr hK hT
  conv => whnf
  obtain ⟨ad3, e3, hcf⟩ := hMr.cells (i := fr.toNat) (by omega)
  cases e3
  by_cases hlt : k < nc
  · have hbf := hMr.bit (i := fr.toNat) (by omega) hlt
    have hbt := hMr.bit (i := tt.toNat) (by omega) hlt
    obtain ⟨ad2, e2, hct⟩ := hMr.cells (i := tt.toNat) (by omega)
    cases e2
    (repeat' (first | (refine wl_L tabOk rfl rfl rfl rfl rfl rfl hbf (run_l tabOk ?_); conv => whnf) | (refine wl_L tabOk rfl rfl rfl rfl rfl rfl hcf (run_l tabOk ?_); conv => whnf) | (refine wl_L tabOk rfl rfl rfl rfl rfl rfl hct (run_l tabOk ?_); conv => whnf) | (refine wl_L tabOk rfl rfl rfl rfl rfl rfl hbt (run_l tabOk ?_); conv => whnf) | (refine wl_Xn tabOk 4 1 rfl rfl rfl rfl rfl rfl rfl (by omega) (run_l tabOk ?_); conv => whnf) | (refine wl_X tabOk 35 1 rfl rfl rfl rfl rfl rfl rfl (by omega) (by omega) (run_l tabOk ?_); conv => whnf) | (refine wl_add rfl rfl rfl rfl rfl rfl (by omega) (by omega) (run_l tabOk ?_); conv => whnf) | (refine wl_sub rfl rfl rfl rfl rfl rfl (by omega) (by omega) (run_l tabOk ?_); conv => whnf) | (refine wl_cvA tabOk rfl rfl rfl (by simp only [inK]; omega) rfl rfl rfl (run_l tabOk ?_); conv => whnf) | (refine wl_cvB tabOk rfl rfl rfl rfl rfl rfl (run_l tabOk ?_); conv => whnf) | (refine wl_rem rfl rfl rfl rfl rfl rfl (by omega) (by omega) (fun r hr hr0 hr1 hr2 => run_l tabOk ?_); conv => whnf) | (refine wl_quo rfl rfl rfl rfl rfl rfl (by omega) (by omega) (by simp only [inK]; omega) (run_l tabOk ?_); conv => whnf) | (refine wl_mul rfl rfl rfl rfl rfl rfl (by omega) (by omega) (run_l tabOk ?_); conv => whnf) | (refine gs_dt (by first | assumption | omega) ?_; conv => whnf) | (refine gs_df (by first | assumption | omega) ?_; conv => whnf) | (refine gs_t (by assumption) ?_; conv => whnf) | (refine gs_f (by assumption) ?_; conv => whnf) | (refine gs_d (fun hg => ?_) (fun hg => ?_) <;> conv => whnf) | (refine gs_n (fun hg => ?_) (fun hg => ?_) <;> conv => whnf) | (refine gs_nb (fun hg => ?_) (fun hg => ?_) <;> conv => whnf) | (refine gs_b (fun hg => ?_) (fun hg => ?_) <;> conv => whnf) | refine fin1 rfl rfl ?_))
    · rename_i hy
      have hno : mg M' tt.toNat k = false := by assumption
      refine wl_Se (j := k * 1) (v := .bool true) tabOk (hMr.blk tt.toNat (by omega)) rfl rfl rfl rfl rfl rfl (by unfold vb; rw [List.length_map, hMr.sh.cols _ (by omega)]; omega) rfl rfl ?_
      intro w1 hp
      rw [Nat.mul_one] at hp
      refine run_l tabOk ?_
      conv => whnf
      (repeat' (first | (refine wl_add rfl rfl rfl rfl rfl rfl (by omega) (by omega) (run_l tabOk ?_); conv => whnf) | (refine wl_sub rfl rfl rfl rfl rfl rfl (by omega) (by omega) (run_l tabOk ?_); conv => whnf) | (refine wl_cvA tabOk rfl rfl rfl (by simp only [inK]; omega) rfl rfl rfl (run_l tabOk ?_); conv => whnf) | (refine wl_cvB tabOk rfl rfl rfl rfl rfl rfl (run_l tabOk ?_); conv => whnf) | (refine wl_rem rfl rfl rfl rfl rfl rfl (by omega) (by omega) (fun r hr hr0 hr1 hr2 => run_l tabOk ?_); conv => whnf) | (refine wl_quo rfl rfl rfl rfl rfl rfl (by omega) (by omega) (by simp only [inK]; omega) (run_l tabOk ?_); conv => whnf) | (refine wl_mul rfl rfl rfl rfl rfl rfl (by omega) (by omega) (run_l tabOk ?_); conv => whnf) | (refine gs_dt (by first | assumption | omega) ?_; conv => whnf) | (refine gs_df (by first | assumption | omega) ?_; conv => whnf) | (refine gs_t (by assumption) ?_; conv => whnf) | (refine gs_f (by assumption) ?_; conv => whnf) | (refine gs_d (fun hg => ?_) (fun hg => ?_) <;> conv => whnf) | (refine gs_n (fun hg => ?_) (fun hg => ?_) <;> conv => whnf) | (refine gs_nb (fun hg => ?_) (fun hg => ?_) <;> conv => whnf) | (refine gs_b (fun hg => ?_) (fun hg => ?_) <;> conv => whnf) | refine fin1 rfl rfl ?_))
      exact ⟨(k + 1, setT M' tt.toNat k, true), ⟨rfl, rfl, rfl, rfl, rfl, trivial⟩, ⟨by simp only; omega, hMr.put (by omega) hp, hK.put hp (hMr.mem (by omega)), flow_set hM.sh hT h0 h1 ht hlt (by assumption) hno⟩, by simp only; omega⟩
    all_goals exact ⟨(k + 1, M', b), ⟨rfl, rfl, rfl, rfl, rfl, trivial⟩, ⟨by simp only; omega, hMr, hK, flow_same hT (by simp_all)⟩, by simp only; omega⟩
  · have hkn : k = nc := by omega
    subst hkn
    (repeat' (first | (refine wl_L tabOk rfl rfl rfl rfl rfl rfl hcf (run_l tabOk ?_); conv => whnf) | (refine wl_X tabOk 35 1 rfl rfl rfl rfl rfl rfl rfl (by omega) (by omega) (run_l tabOk ?_); conv => whnf) | (refine wl_add rfl rfl rfl rfl rfl rfl (by omega) (by omega) (run_l tabOk ?_); conv => whnf) | (refine wl_sub rfl rfl rfl rfl rfl rfl (by omega) (by omega) (run_l tabOk ?_); conv => whnf) | (refine wl_cvA tabOk rfl rfl rfl (by simp only [inK]; omega) rfl rfl rfl (run_l tabOk ?_); conv => whnf) | (refine wl_cvB tabOk rfl rfl rfl rfl rfl rfl (run_l tabOk ?_); conv => whnf) | (refine wl_rem rfl rfl rfl rfl rfl rfl (by omega) (by omega) (fun r hr hr0 hr1 hr2 => run_l tabOk ?_); conv => whnf) | (refine wl_quo rfl rfl rfl rfl rfl rfl (by omega) (by omega) (by simp only [inK]; omega) (run_l tabOk ?_); conv => whnf) | (refine wl_mul rfl rfl rfl rfl rfl rfl (by omega) (by omega) (run_l tabOk ?_); conv => whnf) | (refine gs_dt (by first | assumption | omega) ?_; conv => whnf) | (refine gs_df (by first | assumption | omega) ?_; conv => whnf) | (refine gs_t (by assumption) ?_; conv => whnf) | (refine gs_f (by assumption) ?_; conv => whnf) | (refine gs_d (fun hg => ?_) (fun hg => ?_) <;> conv => whnf) | (refine gs_n (fun hg => ?_) (fun hg => ?_) <;> conv => whnf) | (refine gs_nb (fun hg => ?_) (fun hg => ?_) <;> conv => whnf) | (refine gs_b (fun hg => ?_) (fun hg => ?_) <;> conv => whnf) | refine fin1 rfl rfl ?_))
    exact ⟨M', b, rfl, hMr, hK, flow_end hM.sh hT⟩
end Go.Proofs.Ytkmnhkfgjadppaa
