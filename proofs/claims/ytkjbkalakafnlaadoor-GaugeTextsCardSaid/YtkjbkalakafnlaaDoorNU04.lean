/- The reference's digits. -/
import Derived.Test.YtkjbkalakafnlaaDoorLF04
import Derived.Test.YtkjbkalakafnlaaDoorEX
import Derived.Laws.BytesString
namespace Go.Proofs.YtkjbkalakafnlaaDoor
open Go.RowKit
set_option linter.unusedVariables false
set_option linter.unusedSimpArgs false
set_option maxRecDepth 100000
section
variable {P : Program} {T : Nat → Option TI} {n : Nat} {Q : Post} {F : Fm} {w : World} {ops : Array Oper} {rest : List Oper} {o : Oper} {K : Fm → Prop} {C : World → Prop}
theorem str1_run {s d9 e : TypeId} {x : Operand} {g b : Nat} {t' : TypeId} {fr : Nat × Nat} (hop : o.op = .convert s d9 x) (hx : ev F x = .slice (some ⟨g, 0, none⟩) 1 1) (hs : P.underlying s = some (.slice e)) (he : P.underlying e = some (.int .u8)) (hd9 : P.underlying d9 = some .string)
    (hb : w.heap[g]? = some (.cells #[.int .u8 (b : Int)] t' fr)) : (execOp (ev F) o).run P w = .ok (.value (.string (sL [UInt8.ofNat b]))) w := by
  have h1 := run_convert_bytes_string w s d9 e (some ⟨g, 0, none⟩) 1 1 hs he hd9
  have hl := run_loadCells_list (P := P) w ⟨g, 0, none⟩ [.int .u8 (b : Int)] (fun j v hv => by
    rw [add_zero]
    refine cell_blk hb ?_
    simpa using hv)
  have h2 := run_bytesToString w ⟨g, 0, none⟩ 1 1 [(b : Int)] hl
  have h3 : (Conv.bytesToString (.slice (some ⟨g, 0, none⟩) 1 1)).run P w = .ok (.string (sL [UInt8.ofNat b])) w := h2
  simp [execOp, hop, hx, h1, h3]
theorem wl_str1 {s d9 e : TypeId} {x : Operand} {g b : Nat} {t' : TypeId} {fr : Nat × Nat} (hs : P.underlying s = some (.slice e)) (he : P.underlying e = some (.int .u8)) (hd9 : P.underlying d9 = some .string)
    (hb : w.heap[g]? = some (.cells #[.int .u8 (b : Int)] t' fr)) (hop : o.op = .convert s d9 x) (hx : ev F x = .slice (some ⟨g, 0, none⟩) 1 1) (hg : o.guard = none) {d : Nat} (hd : o.dst = some d) (hn : Nat.blt d n = true)
    (k : wl P n ops rest Q (upd F d (.string (sL [UInt8.ofNat b]))) w) : wl P n ops (o :: rest) Q F w := wl_val hg hd hn (str1_run hop hx hs he hd9 hb) k
end
theorem sL_add (a b : List UInt8) : sL a ++ sL b = sL (a ++ b) := by
  apply ByteArray.ext
  simp [sL]
theorem sL_size (a : List UInt8) : (sL a).size = a.length := by simp [sL, ByteArray.size]
theorem dec_len : ∀ (k m : Nat), m < 10 ^ k → (Lib.decDigits m).length ≤ k + 1 := by
  intro k
  induction k with
  | zero => intro m h; rw [Lib.decDigits_one (by omega)]; simp
  | succ k ih =>
    intro m h
    rw [Lib.decDigits]
    split
    · simp
    · have := ih (m / 10) (by rw [Nat.pow_succ] at h; omega)
      simp; omega
theorem rNum1 (m : Nat) (hm : m < 10) (w : World) : Calls Tryd.prog 22 #[.int .i64 m] w fun e w' => e = .returned (.string (sL (Lib.decDigits m))) ∧ Below w.heap.size w w' := by
  refine enterR (args := [.int .i64 (m : Int)]) tabOk Tryd.func22 rfl Tryd.ntmps22 rfl ?_; conv => whnf
  (repeat' (first | (refine wl_add rfl rfl rfl rfl rfl rfl (by omega) (by omega) (run_l tabOk ?_); conv => whnf) | (refine wl_sub rfl rfl rfl rfl rfl rfl (by omega) (by omega) (run_l tabOk ?_); conv => whnf) | (refine wl_cvA tabOk rfl rfl rfl (by simp only [inK]; omega) rfl rfl rfl (run_l tabOk ?_); conv => whnf) | (refine wl_cvB tabOk rfl rfl rfl rfl rfl rfl (run_l tabOk ?_); conv => whnf) | (refine wl_rem rfl rfl rfl rfl rfl rfl (by omega) (by omega) (fun r hr hr0 hr1 hr2 => run_l tabOk ?_); conv => whnf) | (refine wl_quo rfl rfl rfl rfl rfl rfl (by omega) (by omega) (by simp only [inK]; omega) (run_l tabOk ?_); conv => whnf) | (refine wl_mul rfl rfl rfl rfl rfl rfl (by omega) (by omega) (run_l tabOk ?_); conv => whnf) | (refine gs_dt (by first | assumption | omega) ?_; conv => whnf) | (refine gs_df (by first | assumption | omega) ?_; conv => whnf) | (refine gs_t (by assumption) ?_; conv => whnf) | (refine gs_f (by assumption) ?_; conv => whnf) | (refine gs_d (fun hg => ?_) (fun hg => ?_) <;> conv => whnf) | (refine gs_n (fun hg => ?_) (fun hg => ?_) <;> conv => whnf) | (refine gs_nb (fun hg => ?_) (fun hg => ?_) <;> conv => whnf) | (refine gs_b (fun hg => ?_) (fun hg => ?_) <;> conv => whnf) | refine fin1 rfl rfl ?_))
  refine wl_bs tabOk 5 1 rfl rfl rfl rfl rfl rfl rfl rfl rfl rfl ?_
  intro g w1 hn1
  refine run_l tabOk ?_
  conv => whnf
  refine wl_str1 (b := 48 + m) Tryd.underlying64 Tryd.underlying5 Tryd.underlying9 hn1.blk rfl rfl rfl rfl rfl ?_
  refine run_l tabOk ?_
  conv => whnf
  (repeat' (first | (refine wl_add rfl rfl rfl rfl rfl rfl (by omega) (by omega) (run_l tabOk ?_); conv => whnf) | (refine wl_sub rfl rfl rfl rfl rfl rfl (by omega) (by omega) (run_l tabOk ?_); conv => whnf) | (refine wl_cvA tabOk rfl rfl rfl (by simp only [inK]; omega) rfl rfl rfl (run_l tabOk ?_); conv => whnf) | (refine wl_cvB tabOk rfl rfl rfl rfl rfl rfl (run_l tabOk ?_); conv => whnf) | (refine wl_rem rfl rfl rfl rfl rfl rfl (by omega) (by omega) (fun r hr hr0 hr1 hr2 => run_l tabOk ?_); conv => whnf) | (refine wl_quo rfl rfl rfl rfl rfl rfl (by omega) (by omega) (by simp only [inK]; omega) (run_l tabOk ?_); conv => whnf) | (refine wl_mul rfl rfl rfl rfl rfl rfl (by omega) (by omega) (run_l tabOk ?_); conv => whnf) | (refine gs_dt (by first | assumption | omega) ?_; conv => whnf) | (refine gs_df (by first | assumption | omega) ?_; conv => whnf) | (refine gs_t (by assumption) ?_; conv => whnf) | (refine gs_f (by assumption) ?_; conv => whnf) | (refine gs_d (fun hg => ?_) (fun hg => ?_) <;> conv => whnf) | (refine gs_n (fun hg => ?_) (fun hg => ?_) <;> conv => whnf) | (refine gs_nb (fun hg => ?_) (fun hg => ?_) <;> conv => whnf) | (refine gs_b (fun hg => ?_) (fun hg => ?_) <;> conv => whnf) | refine fin1 rfl rfl ?_))
  exact ⟨by rw [Lib.decDigits_one hm], hn1.below⟩
set_option maxHeartbeats 4000000 in
theorem rNum : ∀ (k m : Nat), m < 10 ^ k → k ≤ 18 → ∀ w : World, Calls Tryd.prog 22 #[.int .i64 m] w fun e w' => e = .returned (.string (sL (Lib.decDigits m))) ∧ Below w.heap.size w w' := by
  intro k
  induction k with
  | zero =>
    intro m hm hk w
    exact rNum1 m (by omega) w
  | succ k ih =>
    intro m hm hk w
    by_cases hs : m < 10
    · exact rNum1 m hs w
    have hm18 : m < 10 ^ 18 := Nat.lt_of_lt_of_le hm (Nat.pow_le_pow_right (by omega) (by omega))
    have e18 : 10 ^ 18 = 1000000000000000000 := by decide
    have hdl := dec_len k (m / 10) (by rw [Nat.pow_succ] at hm; omega)
    have hstep : ∀ w, Calls Tryd.prog 22 #[.int .i64 ((m / 10 : Nat) : Int)] w fun e w' => e = .returned (.string (sL (Lib.decDigits (m / 10)))) ∧ Below w.heap.size w w' := ih (m / 10) (by rw [Nat.pow_succ] at hm; omega) (by omega)
    rw [e18] at hm18
    have hdd : Lib.decDigits m = Lib.decDigits (m / 10) ++ [UInt8.ofNat (48 + m % 10)] := by
      conv => lhs; rw [Lib.decDigits, dif_neg hs]
    refine enterR (args := [.int .i64 (m : Int)]) tabOk Tryd.func22 rfl Tryd.ntmps22 rfl ?_; conv => whnf
    (repeat' (first | (refine wl_add rfl rfl rfl rfl rfl rfl (by omega) (by omega) (run_l tabOk ?_); conv => whnf) | (refine wl_sub rfl rfl rfl rfl rfl rfl (by omega) (by omega) (run_l tabOk ?_); conv => whnf) | (refine wl_cvA tabOk rfl rfl rfl (by simp only [inK]; omega) rfl rfl rfl (run_l tabOk ?_); conv => whnf) | (refine wl_cvB tabOk rfl rfl rfl rfl rfl rfl (run_l tabOk ?_); conv => whnf) | (refine wl_rem rfl rfl rfl rfl rfl rfl (by omega) (by omega) (fun r hr hr0 hr1 hr2 => run_l tabOk ?_); conv => whnf) | (refine wl_quo rfl rfl rfl rfl rfl rfl (by omega) (by omega) (by simp only [inK]; omega) (run_l tabOk ?_); conv => whnf) | (refine wl_mul rfl rfl rfl rfl rfl rfl (by omega) (by omega) (run_l tabOk ?_); conv => whnf) | (refine gs_dt (by first | assumption | omega) ?_; conv => whnf) | (refine gs_df (by first | assumption | omega) ?_; conv => whnf) | (refine gs_t (by assumption) ?_; conv => whnf) | (refine gs_f (by assumption) ?_; conv => whnf) | (refine gs_d (fun hg => ?_) (fun hg => ?_) <;> conv => whnf) | (refine gs_n (fun hg => ?_) (fun hg => ?_) <;> conv => whnf) | (refine gs_nb (fun hg => ?_) (fun hg => ?_) <;> conv => whnf) | (refine gs_b (fun hg => ?_) (fun hg => ?_) <;> conv => whnf) | refine fin1 rfl rfl ?_))
    refine wc_qx [0, 1, 3, 4, 5, 6] 3 9 (stable_Bw _) tabOk mixed (by kernel_rfl) (Below.refl _ _) ?_; (conv => whnf)
    (repeat' (first | (refine wq_rem rfl rfl rfl rfl rfl rfl (by omega) (by omega) (fun r hr hr0 hr1 hr2 => ?_); obtain rfl : r = ((m % 10 : Nat) : Int) := (by omega); refine run_q tabOk ?_; (conv => whnf)) | (refine wq_add rfl rfl rfl rfl rfl rfl (by omega) (by omega) (run_q tabOk ?_); conv => whnf) | (refine wq_sub rfl rfl rfl rfl rfl rfl (by omega) (by omega) (run_q tabOk ?_); conv => whnf) | (refine wq_cvA tabOk rfl rfl rfl (by simp only [inK]; omega) rfl rfl rfl (run_q tabOk ?_); conv => whnf) | (refine wq_cvB tabOk rfl rfl rfl rfl rfl rfl (run_q tabOk ?_); conv => whnf) | (refine wq_rem rfl rfl rfl rfl rfl rfl (by omega) (by omega) (fun r hr hr0 hr1 hr2 => run_q tabOk ?_); conv => whnf) | (refine wq_quo rfl rfl rfl rfl rfl rfl (by omega) (by omega) (by simp only [inK]; omega) (run_q tabOk ?_); conv => whnf) | (refine wq_mul rfl rfl rfl rfl rfl rfl (by omega) (by omega) (run_q tabOk ?_); conv => whnf) | (refine gs_dt (by first | assumption | omega) ?_; conv => whnf) | (refine gs_df (by first | assumption | omega) ?_; conv => whnf) | (refine gs_t (by assumption) ?_; conv => whnf) | (refine gs_f (by assumption) ?_; conv => whnf) | (refine gs_d (fun hg => ?_) (fun hg => ?_) <;> conv => whnf) | (refine gs_n (fun hg => ?_) (fun hg => ?_) <;> conv => whnf) | (refine gs_nb (fun hg => ?_) (fun hg => ?_) <;> conv => whnf) | (refine gs_b (fun hg => ?_) (fun hg => ?_) <;> conv => whnf)))
    intro W hC hBW
    conv => whnf
    clear hBW
    repeat' (first | exact True.intro | (refine And.intro ?_ ?_ <;> (conv => whnf)) | (refine wb_C fn22 (hstep _) rfl rfl rfl rfl rfl rfl ?_; rintro _ W1 ⟨rfl, hB1⟩; refine ⟨_, rfl, bup hC hB1, fun W2 hB2 hC => ?_⟩; (try (have f7 := blk_up hB2 (blk_up hB1 f7))); clear hB1 hB2; (conv => whnf)) | (refine wb_a (wa_bs tabOk 5 1 rfl rfl rfl rfl rfl rfl rfl rfl rfl ?_); intro g W1 hn; refine ⟨bup hC hn.below, fun W2 hB2 hC => ?_⟩; have f7 := blk_up hB2 hn.blk; clear hn hB2; (conv => whnf)) | (refine wb_val rfl rfl (str1_run (b := 48 + m % 10) rfl rfl Tryd.underlying64 Tryd.underlying5 Tryd.underlying9 f7) ?_; refine ⟨hC, fun W2 hB2 hC => ?_⟩; clear hB2 f7; (conv => whnf)))
    all_goals
      refine wl_sadd (sL_add _ _) (by rw [sL_size, sL_size]; simp; omega) rfl rfl rfl rfl rfl rfl ?_
      refine run_l tabOk ?_
      conv => whnf
      (repeat' (first | (refine wl_add rfl rfl rfl rfl rfl rfl (by omega) (by omega) (run_l tabOk ?_); conv => whnf) | (refine wl_sub rfl rfl rfl rfl rfl rfl (by omega) (by omega) (run_l tabOk ?_); conv => whnf) | (refine wl_cvA tabOk rfl rfl rfl (by simp only [inK]; omega) rfl rfl rfl (run_l tabOk ?_); conv => whnf) | (refine wl_cvB tabOk rfl rfl rfl rfl rfl rfl (run_l tabOk ?_); conv => whnf) | (refine wl_rem rfl rfl rfl rfl rfl rfl (by omega) (by omega) (fun r hr hr0 hr1 hr2 => run_l tabOk ?_); conv => whnf) | (refine wl_quo rfl rfl rfl rfl rfl rfl (by omega) (by omega) (by simp only [inK]; omega) (run_l tabOk ?_); conv => whnf) | (refine wl_mul rfl rfl rfl rfl rfl rfl (by omega) (by omega) (run_l tabOk ?_); conv => whnf) | (refine gs_dt (by first | assumption | omega) ?_; conv => whnf) | (refine gs_df (by first | assumption | omega) ?_; conv => whnf) | (refine gs_t (by assumption) ?_; conv => whnf) | (refine gs_f (by assumption) ?_; conv => whnf) | (refine gs_d (fun hg => ?_) (fun hg => ?_) <;> conv => whnf) | (refine gs_n (fun hg => ?_) (fun hg => ?_) <;> conv => whnf) | (refine gs_nb (fun hg => ?_) (fun hg => ?_) <;> conv => whnf) | (refine gs_b (fun hg => ?_) (fun hg => ?_) <;> conv => whnf) | refine fin1 rfl rfl ?_))
      exact ⟨by rw [hdd], hC⟩
end Go.Proofs.YtkjbkalakafnlaaDoor
