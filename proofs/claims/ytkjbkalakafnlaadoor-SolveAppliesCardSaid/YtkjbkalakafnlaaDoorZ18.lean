/- Several texts of one claim in one file: U8 SP23 A2 L2000. -/
import Derived.Test.YtkjbkalakafnlaaDoorZ5
import Derived.Test.YtkjbkalakafnlaaDoorZ10
import Derived.Test.YtkjbkalakafnlaaDoorZ4
import Derived.Test.YtkjbkalakafnlaaDoorZ17
/- When rows are one; the reference looks at two rows of numbers. -/
namespace Go.Proofs.YtkjbkalakafnlaaDoor
open Go.RowKit
set_option linter.unusedVariables false
set_option linter.unusedSimpArgs false
set_option maxRecDepth 100000
def sameL {α : Type} [Inhabited α] (f : α → α → Bool) (xs ys : List α) : Bool := decide (xs.length = ys.length) && (List.range xs.length).all fun i => f xs[i]! ys[i]!
section
variable {α : Type} [Inhabited α] {f : α → α → Bool} {xs ys : List α}
theorem sameL_len (h : ¬ xs.length = ys.length) : sameL f xs ys = false := by simp [sameL, h]
theorem sameL_at {i : Nat} (hi : i < xs.length) (h : f xs[i]! ys[i]! = false) : sameL f xs ys = false := by
  have : (List.range xs.length).all (fun i => f xs[i]! ys[i]!) = false := by
    rw [List.all_eq_false]
    exact ⟨i, by simpa using hi, by rw [h]; simp⟩
  rw [sameL, this]
  simp
theorem sameL_all (hl : xs.length = ys.length) (h : ∀ i, i < xs.length → f xs[i]! ys[i]! = true) : sameL f xs ys = true := by
  have : (List.range xs.length).all (fun i => f xs[i]! ys[i]!) = true := by
    rw [List.all_eq_true]
    intro i hi
    exact h i (by simpa using hi)
  rw [sameL, this]
  simp [hl]
theorem sameL_refl (h : ∀ x, f x x = true) : sameL f xs xs = true := sameL_all rfl fun i _ => h _
end
def ieq (a b : Int) : Bool := decide (a = b)
def sameI (xs ys : List Int) : Bool := sameL ieq xs ys
def sameCon (x y : Con) : Bool := decide (x.k = y.k) && decide (x.a = y.a) && decide (x.b = y.b) && sameI x.args y.args
def sameCell (x y : Cell) : Bool := (x.fn == y.fn) && decide (x.v = y.v) && sameI x.args y.args
def sameSys (s t : Sys) : Bool := decide (s.vars = t.vars) && sameL sameCon s.cons t.cons && sameL sameCell s.cells t.cells
theorem sameI_refl (xs : List Int) : sameI xs xs = true := sameL_refl fun x => by simp [ieq]
theorem sameCon_refl (x : Con) : sameCon x x = true := by simp [sameCon, sameI_refl]
theorem sameCell_refl (x : Cell) : sameCell x x = true := by simp [sameCell, sameI_refl]
theorem sameSys_refl (s : Sys) : sameSys s s = true := by
  simp [sameSys, sameL_refl sameCon_refl, sameL_refl sameCell_refl]
theorem refSameInts (xs ys : List Int) (A B : Option Addr) (c d : Nat) (w : World) (h1 : RI w A xs) (h2 : RI w B ys) :
    Calls Tryd.prog 39 #[.slice A xs.length c, .slice B ys.length d] w fun e w' => e = .returned (.bool (sameI xs ys)) ∧ Below w.heap.size w w' := by
  have hm1 := h1.1
  have hm2 := h2.1
  refine enterR (args := [.slice A xs.length c, .slice B ys.length d]) tabOk Tryd.func39 rfl Tryd.ntmps39 rfl ?_; conv => whnf
  (repeat' (first | (refine wl_add rfl rfl rfl rfl rfl rfl (by omega) (by omega) (run_l tabOk ?_); conv => whnf) | (refine wl_sub rfl rfl rfl rfl rfl rfl (by omega) (by omega) (run_l tabOk ?_); conv => whnf) | (refine wl_cvA tabOk rfl rfl rfl (by simp only [inK]; omega) rfl rfl rfl (run_l tabOk ?_); conv => whnf) | (refine wl_cvB tabOk rfl rfl rfl rfl rfl rfl (run_l tabOk ?_); conv => whnf) | (refine wl_rem rfl rfl rfl rfl rfl rfl (by omega) (by omega) (fun r hr hr0 hr1 hr2 => run_l tabOk ?_); conv => whnf) | (refine wl_quo rfl rfl rfl rfl rfl rfl (by omega) (by omega) (by simp only [inK]; omega) (run_l tabOk ?_); conv => whnf) | (refine wl_mul rfl rfl rfl rfl rfl rfl (by omega) (by omega) (run_l tabOk ?_); conv => whnf) | (refine gs_dt (by first | assumption | omega) ?_; conv => whnf) | (refine gs_df (by first | assumption | omega) ?_; conv => whnf) | (refine gs_t (by assumption) ?_; conv => whnf) | (refine gs_f (by assumption) ?_; conv => whnf) | (refine gs_d (fun hg => ?_) (fun hg => ?_) <;> conv => whnf) | (refine gs_n (fun hg => ?_) (fun hg => ?_) <;> conv => whnf) | (refine gs_nb (fun hg => ?_) (fun hg => ?_) <;> conv => whnf) | (refine gs_b (fun hg => ?_) (fun hg => ?_) <;> conv => whnf) | refine fin1 rfl rfl ?_))
  · exact ⟨retB (sameL_len (by omega)).symm, Below.refl _ _⟩
  refine lp_loop tabOk (X := Nat) (fun i => [(0, .slice A xs.length c), (1, .slice B ys.length d), (5, .int .i64 i)])
    (fun i wr => i ≤ xs.length ∧ (∀ j, j < i → ieq xs[j]! ys[j]! = true) ∧ Below w.heap.size w wr) (fun i => xs.length - i) 0 ⟨rfl, rfl, rfl, trivial⟩ ⟨by omega, by omega, Below.refl _ _⟩ ?_
  intro i G wr ⟨hi, hok, hB⟩
  conv => whnf
  by_cases hlt : i < xs.length
  · obtain ⟨x, ad, hx, rfl, f0, _⟩ := intsE (h1.up (stays_I _) hB) i hlt
    obtain ⟨y, ad2, hy, rfl, f1, _⟩ := intsE (h2.up (stays_I _) hB) i (by omega)
    (repeat' (first | (refine wl_add rfl rfl rfl rfl rfl rfl (by omega) (by omega) (run_l tabOk ?_); conv => whnf) | (refine wl_sub rfl rfl rfl rfl rfl rfl (by omega) (by omega) (run_l tabOk ?_); conv => whnf) | (refine wl_cvA tabOk rfl rfl rfl (by simp only [inK]; omega) rfl rfl rfl (run_l tabOk ?_); conv => whnf) | (refine wl_cvB tabOk rfl rfl rfl rfl rfl rfl (run_l tabOk ?_); conv => whnf) | (refine wl_rem rfl rfl rfl rfl rfl rfl (by omega) (by omega) (fun r hr hr0 hr1 hr2 => run_l tabOk ?_); conv => whnf) | (refine wl_quo rfl rfl rfl rfl rfl rfl (by omega) (by omega) (by simp only [inK]; omega) (run_l tabOk ?_); conv => whnf) | (refine wl_mul rfl rfl rfl rfl rfl rfl (by omega) (by omega) (run_l tabOk ?_); conv => whnf) | (refine gs_dt (by first | assumption | omega) ?_; conv => whnf) | (refine gs_df (by first | assumption | omega) ?_; conv => whnf) | (refine gs_t (by assumption) ?_; conv => whnf) | (refine gs_f (by assumption) ?_; conv => whnf) | (refine gs_d (fun hg => ?_) (fun hg => ?_) <;> conv => whnf) | (refine gs_n (fun hg => ?_) (fun hg => ?_) <;> conv => whnf) | (refine gs_nb (fun hg => ?_) (fun hg => ?_) <;> conv => whnf) | (refine gs_b (fun hg => ?_) (fun hg => ?_) <;> conv => whnf) | refine fin1 rfl rfl ?_))
    refine wc_qr tabOk mixed (by kernel_rfl) ?_; conv => whnf
    (repeat' (first | (refine wq_L tabOk rfl rfl rfl rfl rfl rfl f0 (run_q tabOk ?_); conv => whnf) | (refine wq_L tabOk rfl rfl rfl rfl rfl rfl f1 (run_q tabOk ?_); conv => whnf) | (refine wq_Xn tabOk 3 1 rfl rfl rfl rfl rfl rfl rfl (by omega) (run_q tabOk ?_); conv => whnf) | (refine wq_add rfl rfl rfl rfl rfl rfl (by omega) (by omega) (run_q tabOk ?_); conv => whnf) | (refine wq_sub rfl rfl rfl rfl rfl rfl (by omega) (by omega) (run_q tabOk ?_); conv => whnf) | (refine wq_cvA tabOk rfl rfl rfl (by simp only [inK]; omega) rfl rfl rfl (run_q tabOk ?_); conv => whnf) | (refine wq_cvB tabOk rfl rfl rfl rfl rfl rfl (run_q tabOk ?_); conv => whnf) | (refine wq_rem rfl rfl rfl rfl rfl rfl (by omega) (by omega) (fun r hr hr0 hr1 hr2 => run_q tabOk ?_); conv => whnf) | (refine wq_quo rfl rfl rfl rfl rfl rfl (by omega) (by omega) (by simp only [inK]; omega) (run_q tabOk ?_); conv => whnf) | (refine wq_mul rfl rfl rfl rfl rfl rfl (by omega) (by omega) (run_q tabOk ?_); conv => whnf) | (refine gs_dt (by first | assumption | omega) ?_; conv => whnf) | (refine gs_df (by first | assumption | omega) ?_; conv => whnf) | (refine gs_t (by assumption) ?_; conv => whnf) | (refine gs_f (by assumption) ?_; conv => whnf) | (refine gs_d (fun hg => ?_) (fun hg => ?_) <;> conv => whnf) | (refine gs_n (fun hg => ?_) (fun hg => ?_) <;> conv => whnf) | (refine gs_nb (fun hg => ?_) (fun hg => ?_) <;> conv => whnf) | (refine gs_b (fun hg => ?_) (fun hg => ?_) <;> conv => whnf)))
    intro w2 hB2
    conv => whnf
    (repeat' (first | (refine wl_add rfl rfl rfl rfl rfl rfl (by omega) (by omega) (run_l tabOk ?_); conv => whnf) | (refine wl_sub rfl rfl rfl rfl rfl rfl (by omega) (by omega) (run_l tabOk ?_); conv => whnf) | (refine wl_cvA tabOk rfl rfl rfl (by simp only [inK]; omega) rfl rfl rfl (run_l tabOk ?_); conv => whnf) | (refine wl_cvB tabOk rfl rfl rfl rfl rfl rfl (run_l tabOk ?_); conv => whnf) | (refine wl_rem rfl rfl rfl rfl rfl rfl (by omega) (by omega) (fun r hr hr0 hr1 hr2 => run_l tabOk ?_); conv => whnf) | (refine wl_quo rfl rfl rfl rfl rfl rfl (by omega) (by omega) (by simp only [inK]; omega) (run_l tabOk ?_); conv => whnf) | (refine wl_mul rfl rfl rfl rfl rfl rfl (by omega) (by omega) (run_l tabOk ?_); conv => whnf) | (refine gs_dt (by first | assumption | omega) ?_; conv => whnf) | (refine gs_df (by first | assumption | omega) ?_; conv => whnf) | (refine gs_t (by assumption) ?_; conv => whnf) | (refine gs_f (by assumption) ?_; conv => whnf) | (refine gs_d (fun hg => ?_) (fun hg => ?_) <;> conv => whnf) | (refine gs_n (fun hg => ?_) (fun hg => ?_) <;> conv => whnf) | (refine gs_nb (fun hg => ?_) (fun hg => ?_) <;> conv => whnf) | (refine gs_b (fun hg => ?_) (fun hg => ?_) <;> conv => whnf) | refine fin1 rfl rfl ?_))
    · exact ⟨retB (sameL_at hlt (by rw [hx.out, hy.out]; simp [ieq]; assumption)).symm, bup hB hB2⟩
    · exact ⟨i + 1, ⟨rfl, rfl, rfl, trivial⟩, ⟨by omega, all_succ hok (by rw [hx.out, hy.out]; simp [ieq]; omega), bup hB hB2⟩, by omega⟩
  · (repeat' (first | (refine wl_add rfl rfl rfl rfl rfl rfl (by omega) (by omega) (run_l tabOk ?_); conv => whnf) | (refine wl_sub rfl rfl rfl rfl rfl rfl (by omega) (by omega) (run_l tabOk ?_); conv => whnf) | (refine wl_cvA tabOk rfl rfl rfl (by simp only [inK]; omega) rfl rfl rfl (run_l tabOk ?_); conv => whnf) | (refine wl_cvB tabOk rfl rfl rfl rfl rfl rfl (run_l tabOk ?_); conv => whnf) | (refine wl_rem rfl rfl rfl rfl rfl rfl (by omega) (by omega) (fun r hr hr0 hr1 hr2 => run_l tabOk ?_); conv => whnf) | (refine wl_quo rfl rfl rfl rfl rfl rfl (by omega) (by omega) (by simp only [inK]; omega) (run_l tabOk ?_); conv => whnf) | (refine wl_mul rfl rfl rfl rfl rfl rfl (by omega) (by omega) (run_l tabOk ?_); conv => whnf) | (refine gs_dt (by first | assumption | omega) ?_; conv => whnf) | (refine gs_df (by first | assumption | omega) ?_; conv => whnf) | (refine gs_t (by assumption) ?_; conv => whnf) | (refine gs_f (by assumption) ?_; conv => whnf) | (refine gs_d (fun hg => ?_) (fun hg => ?_) <;> conv => whnf) | (refine gs_n (fun hg => ?_) (fun hg => ?_) <;> conv => whnf) | (refine gs_nb (fun hg => ?_) (fun hg => ?_) <;> conv => whnf) | (refine gs_b (fun hg => ?_) (fun hg => ?_) <;> conv => whnf) | refine fin1 rfl rfl ?_))
    exact ⟨retB (sameL_all (by omega) (all_ge hok hlt)).symm, hB⟩
end Go.Proofs.YtkjbkalakafnlaaDoor

/- The reference's SamePoints. -/
namespace Go.Proofs.YtkjbkalakafnlaaDoor
open Go.RowKit
set_option linter.unusedVariables false
set_option linter.unusedSimpArgs false
set_option maxRecDepth 100000
def samePts (ps qs : List (List Int)) : Bool := sameL sameI ps qs
theorem samePts_refl (ps : List (List Int)) : samePts ps ps = true := sameL_refl sameI_refl
theorem sameL_iff {α : Type} [Inhabited α] {f : α → α → Bool} (hf : ∀ x y, f x y = true → x = y) {xs ys : List α} (h : sameL f xs ys = true) : xs = ys := by
  unfold sameL at h
  rw [Bool.and_eq_true, List.all_eq_true] at h
  have hl : xs.length = ys.length := by simpa using h.1
  refine List.ext_getElem hl fun i h1 h2 => ?_
  have := hf _ _ (h.2 i (by simpa using h1))
  rwa [getElem!_pos xs i h1, getElem!_pos ys i h2] at this
theorem sameI_eq {xs ys : List Int} (h : sameI xs ys = true) : xs = ys := sameL_iff (fun x y h => by simpa [ieq] using h) h
theorem samePts_eq {ps qs : List (List Int)} (h : samePts ps qs = true) : ps = qs := sameL_iff (fun x y h => sameI_eq h) h
set_option maxHeartbeats 4000000 in
theorem refSamePoints (ps qs : List (List Int)) (A B : Option Addr) (c d : Nat) (w : World) (h1 : RRows w A ps) (h2 : RRows w B qs) :
    Calls Tryd.prog 35 #[.slice A ps.length c, .slice B qs.length d] w fun e w' => e = .returned (.bool (samePts ps qs)) ∧ Below w.heap.size w w' := by
  have hm1 := h1.1
  have hm2 := h2.1
  refine enterR (args := [.slice A ps.length c, .slice B qs.length d]) tabOk Tryd.func35 rfl Tryd.ntmps35 rfl ?_; conv => whnf
  (repeat' (first | (refine wl_add rfl rfl rfl rfl rfl rfl (by omega) (by omega) (run_l tabOk ?_); conv => whnf) | (refine wl_sub rfl rfl rfl rfl rfl rfl (by omega) (by omega) (run_l tabOk ?_); conv => whnf) | (refine wl_cvA tabOk rfl rfl rfl (by simp only [inK]; omega) rfl rfl rfl (run_l tabOk ?_); conv => whnf) | (refine wl_cvB tabOk rfl rfl rfl rfl rfl rfl (run_l tabOk ?_); conv => whnf) | (refine wl_rem rfl rfl rfl rfl rfl rfl (by omega) (by omega) (fun r hr hr0 hr1 hr2 => run_l tabOk ?_); conv => whnf) | (refine wl_quo rfl rfl rfl rfl rfl rfl (by omega) (by omega) (by simp only [inK]; omega) (run_l tabOk ?_); conv => whnf) | (refine wl_mul rfl rfl rfl rfl rfl rfl (by omega) (by omega) (run_l tabOk ?_); conv => whnf) | (refine gs_dt (by first | assumption | omega) ?_; conv => whnf) | (refine gs_df (by first | assumption | omega) ?_; conv => whnf) | (refine gs_t (by assumption) ?_; conv => whnf) | (refine gs_f (by assumption) ?_; conv => whnf) | (refine gs_d (fun hg => ?_) (fun hg => ?_) <;> conv => whnf) | (refine gs_n (fun hg => ?_) (fun hg => ?_) <;> conv => whnf) | (refine gs_nb (fun hg => ?_) (fun hg => ?_) <;> conv => whnf) | (refine gs_b (fun hg => ?_) (fun hg => ?_) <;> conv => whnf) | refine fin1 rfl rfl ?_))
  · exact ⟨retB (sameL_len (by omega)).symm, Below.refl _ _⟩
  refine lp_loop tabOk (X := Nat) (fun i => [(0, .slice A ps.length c), (1, .slice B qs.length d), (5, .int .i64 i)])
    (fun i wr => i ≤ ps.length ∧ (∀ j, j < i → sameI ps[j]! qs[j]! = true) ∧ Below w.heap.size w wr) (fun i => ps.length - i) 0 ⟨rfl, rfl, rfl, trivial⟩ ⟨by omega, by omega, Below.refl _ _⟩ ?_
  intro i G wr ⟨hi, hok, hB⟩
  conv => whnf
  by_cases hlt : i < ps.length
  · obtain ⟨x, ad, D, dc, hx, rfl, f0, _, hxr⟩ := rowsE (h1.up stays_Ints hB) i hlt
    obtain ⟨y, ad2, D2, dc2, hy, rfl, f1, _, hyr⟩ := rowsE (h2.up stays_Ints hB) i (by omega)
    (repeat' (first | (refine wl_add rfl rfl rfl rfl rfl rfl (by omega) (by omega) (run_l tabOk ?_); conv => whnf) | (refine wl_sub rfl rfl rfl rfl rfl rfl (by omega) (by omega) (run_l tabOk ?_); conv => whnf) | (refine wl_cvA tabOk rfl rfl rfl (by simp only [inK]; omega) rfl rfl rfl (run_l tabOk ?_); conv => whnf) | (refine wl_cvB tabOk rfl rfl rfl rfl rfl rfl (run_l tabOk ?_); conv => whnf) | (refine wl_rem rfl rfl rfl rfl rfl rfl (by omega) (by omega) (fun r hr hr0 hr1 hr2 => run_l tabOk ?_); conv => whnf) | (refine wl_quo rfl rfl rfl rfl rfl rfl (by omega) (by omega) (by simp only [inK]; omega) (run_l tabOk ?_); conv => whnf) | (refine wl_mul rfl rfl rfl rfl rfl rfl (by omega) (by omega) (run_l tabOk ?_); conv => whnf) | (refine gs_dt (by first | assumption | omega) ?_; conv => whnf) | (refine gs_df (by first | assumption | omega) ?_; conv => whnf) | (refine gs_t (by assumption) ?_; conv => whnf) | (refine gs_f (by assumption) ?_; conv => whnf) | (refine gs_d (fun hg => ?_) (fun hg => ?_) <;> conv => whnf) | (refine gs_n (fun hg => ?_) (fun hg => ?_) <;> conv => whnf) | (refine gs_nb (fun hg => ?_) (fun hg => ?_) <;> conv => whnf) | (refine gs_b (fun hg => ?_) (fun hg => ?_) <;> conv => whnf) | refine fin1 rfl rfl ?_))
    refine wc_qr tabOk mixed (by kernel_rfl) ?_; conv => whnf
    (repeat' (first | (refine wq_L tabOk rfl rfl rfl rfl rfl rfl f0 (run_q tabOk ?_); conv => whnf) | (refine wq_L tabOk rfl rfl rfl rfl rfl rfl f1 (run_q tabOk ?_); conv => whnf) | (refine wq_Xn tabOk 46 1 rfl rfl rfl rfl rfl rfl rfl (by omega) (run_q tabOk ?_); conv => whnf) | (refine wq_C fn39 (fun w' hw' => refSameInts x y D D2 dc dc2 w' (hxr.out.up (stays_I _) hw') (hyr.out.up (stays_I _) hw')) rfl rfl rfl rfl rfl rfl rfl (run_q tabOk ?_); (conv => whnf)) | (refine wq_add rfl rfl rfl rfl rfl rfl (by omega) (by omega) (run_q tabOk ?_); conv => whnf) | (refine wq_sub rfl rfl rfl rfl rfl rfl (by omega) (by omega) (run_q tabOk ?_); conv => whnf) | (refine wq_cvA tabOk rfl rfl rfl (by simp only [inK]; omega) rfl rfl rfl (run_q tabOk ?_); conv => whnf) | (refine wq_cvB tabOk rfl rfl rfl rfl rfl rfl (run_q tabOk ?_); conv => whnf) | (refine wq_rem rfl rfl rfl rfl rfl rfl (by omega) (by omega) (fun r hr hr0 hr1 hr2 => run_q tabOk ?_); conv => whnf) | (refine wq_quo rfl rfl rfl rfl rfl rfl (by omega) (by omega) (by simp only [inK]; omega) (run_q tabOk ?_); conv => whnf) | (refine wq_mul rfl rfl rfl rfl rfl rfl (by omega) (by omega) (run_q tabOk ?_); conv => whnf) | (refine gs_dt (by first | assumption | omega) ?_; conv => whnf) | (refine gs_df (by first | assumption | omega) ?_; conv => whnf) | (refine gs_t (by assumption) ?_; conv => whnf) | (refine gs_f (by assumption) ?_; conv => whnf) | (refine gs_d (fun hg => ?_) (fun hg => ?_) <;> conv => whnf) | (refine gs_n (fun hg => ?_) (fun hg => ?_) <;> conv => whnf) | (refine gs_nb (fun hg => ?_) (fun hg => ?_) <;> conv => whnf) | (refine gs_b (fun hg => ?_) (fun hg => ?_) <;> conv => whnf)))
    intro w2 hB2
    conv => whnf
    (repeat' (first | (refine wl_add rfl rfl rfl rfl rfl rfl (by omega) (by omega) (run_l tabOk ?_); conv => whnf) | (refine wl_sub rfl rfl rfl rfl rfl rfl (by omega) (by omega) (run_l tabOk ?_); conv => whnf) | (refine wl_cvA tabOk rfl rfl rfl (by simp only [inK]; omega) rfl rfl rfl (run_l tabOk ?_); conv => whnf) | (refine wl_cvB tabOk rfl rfl rfl rfl rfl rfl (run_l tabOk ?_); conv => whnf) | (refine wl_rem rfl rfl rfl rfl rfl rfl (by omega) (by omega) (fun r hr hr0 hr1 hr2 => run_l tabOk ?_); conv => whnf) | (refine wl_quo rfl rfl rfl rfl rfl rfl (by omega) (by omega) (by simp only [inK]; omega) (run_l tabOk ?_); conv => whnf) | (refine wl_mul rfl rfl rfl rfl rfl rfl (by omega) (by omega) (run_l tabOk ?_); conv => whnf) | (refine gs_dt (by first | assumption | omega) ?_; conv => whnf) | (refine gs_df (by first | assumption | omega) ?_; conv => whnf) | (refine gs_t (by assumption) ?_; conv => whnf) | (refine gs_f (by assumption) ?_; conv => whnf) | (refine gs_d (fun hg => ?_) (fun hg => ?_) <;> conv => whnf) | (refine gs_n (fun hg => ?_) (fun hg => ?_) <;> conv => whnf) | (refine gs_nb (fun hg => ?_) (fun hg => ?_) <;> conv => whnf) | (refine gs_b (fun hg => ?_) (fun hg => ?_) <;> conv => whnf) | refine fin1 rfl rfl ?_))
    · exact ⟨retB (sameL_at hlt (by rw [hx.out, hy.out]; assumption)).symm, bup hB hB2⟩
    · exact ⟨i + 1, ⟨rfl, rfl, rfl, trivial⟩, ⟨by omega, all_succ hok (by rw [hx.out, hy.out]; assumption), bup hB hB2⟩, by omega⟩
  · (repeat' (first | (refine wl_add rfl rfl rfl rfl rfl rfl (by omega) (by omega) (run_l tabOk ?_); conv => whnf) | (refine wl_sub rfl rfl rfl rfl rfl rfl (by omega) (by omega) (run_l tabOk ?_); conv => whnf) | (refine wl_cvA tabOk rfl rfl rfl (by simp only [inK]; omega) rfl rfl rfl (run_l tabOk ?_); conv => whnf) | (refine wl_cvB tabOk rfl rfl rfl rfl rfl rfl (run_l tabOk ?_); conv => whnf) | (refine wl_rem rfl rfl rfl rfl rfl rfl (by omega) (by omega) (fun r hr hr0 hr1 hr2 => run_l tabOk ?_); conv => whnf) | (refine wl_quo rfl rfl rfl rfl rfl rfl (by omega) (by omega) (by simp only [inK]; omega) (run_l tabOk ?_); conv => whnf) | (refine wl_mul rfl rfl rfl rfl rfl rfl (by omega) (by omega) (run_l tabOk ?_); conv => whnf) | (refine gs_dt (by first | assumption | omega) ?_; conv => whnf) | (refine gs_df (by first | assumption | omega) ?_; conv => whnf) | (refine gs_t (by assumption) ?_; conv => whnf) | (refine gs_f (by assumption) ?_; conv => whnf) | (refine gs_d (fun hg => ?_) (fun hg => ?_) <;> conv => whnf) | (refine gs_n (fun hg => ?_) (fun hg => ?_) <;> conv => whnf) | (refine gs_nb (fun hg => ?_) (fun hg => ?_) <;> conv => whnf) | (refine gs_b (fun hg => ?_) (fun hg => ?_) <;> conv => whnf) | refine fin1 rfl rfl ?_))
    exact ⟨retB (sameL_all (by omega) (all_ge hok hlt)).symm, hB⟩
end Go.Proofs.YtkjbkalakafnlaaDoor

/- weathervaneref12.Right: what it answers. -/
namespace Go.Proofs.YtkjbkalakafnlaaDoor
open Go.RowKit
set_option linter.unusedVariables false
set_option linter.unusedSimpArgs false
set_option maxRecDepth 100000
theorem in_any (a b c : Int) (w : World) :
    Calls Tryd.prog 52 #[.int .i64 a, .int .i64 b, .int .i64 c] w fun e w' => e = .returned (.bool (inR a b c)) ∧ w = w' := by
  refine enterR (args := [.int .i64 a, .int .i64 b, .int .i64 c]) tabOk Tryd.func52 rfl Tryd.ntmps52 rfl ?_; conv => whnf
  (repeat' (first | (refine wl_add rfl rfl rfl rfl rfl rfl (by omega) (by omega) (run_l tabOk ?_); conv => whnf) | (refine wl_sub rfl rfl rfl rfl rfl rfl (by omega) (by omega) (run_l tabOk ?_); conv => whnf) | (refine gs_dt (by first | assumption | omega) ?_; conv => whnf) | (refine gs_df (by first | assumption | omega) ?_; conv => whnf) | (refine gs_t (by assumption) ?_; conv => whnf) | (refine gs_f (by assumption) ?_; conv => whnf) | (refine gs_d (fun hg => ?_) (fun hg => ?_) <;> conv => whnf) | (refine gs_n (fun hg => ?_) (fun hg => ?_) <;> conv => whnf) | (refine gs_nb (fun hg => ?_) (fun hg => ?_) <;> conv => whnf) | (refine gs_b (fun hg => ?_) (fun hg => ?_) <;> conv => whnf) | refine fin1 rfl rfl ?_))
  all_goals exact ⟨retB (by simp_all [inR]; try omega), rfl⟩
theorem in_q (a b c : Int) (w : World) :
    Calls Tryd.prog 52 #[.int .i64 a, .int .i64 b, .int .i64 c] w fun e w' => e = .returned (.bool (inR a b c)) ∧ Below w.heap.size w w' :=
  (in_any a b c w).mono fun _ _ ⟨h1, h2⟩ => ⟨h1, by subst h2; exact Below.refl _ _⟩
set_option maxHeartbeats 1000000
theorem refRight (s : Sys) (A1 A2 : Option Addr) (c1 c2 : Nat) (w : World) (h1 : RCells w A1 s.cells) (h2 : RCons w A2 s.cons) :
    Calls Tryd.prog 38 #[.agg #[.int .i64 s.vars, .slice A1 s.cells.length c1, .slice A2 s.cons.length c2]] w fun e w' => e = .returned (.bool (rightB s)) ∧ Below w.heap.size w w' := by
  have L1 := h1.1
  have L2 := h2.1
  refine enterR (args := [.agg #[.int .i64 s.vars, .slice A1 s.cells.length c1, .slice A2 s.cons.length c2]]) tabOk Tryd.func38 rfl Tryd.ntmps38 rfl ?_; conv => whnf
  refine wl_box rfl rfl rfl rfl rfl rfl ?_
  intro g w1 hn
  have hb := hn.blk
  refine run_l tabOk ?_
  conv => whnf
  (repeat' (first | (refine wl_Lg tabOk hb rfl rfl rfl rfl rfl rfl rfl (run_l tabOk ?_); conv => whnf) | (refine wl_add rfl rfl rfl rfl rfl rfl (by omega) (by omega) (run_l tabOk ?_); conv => whnf) | (refine wl_sub rfl rfl rfl rfl rfl rfl (by omega) (by omega) (run_l tabOk ?_); conv => whnf) | (refine gs_dt (by first | assumption | omega) ?_; conv => whnf) | (refine gs_df (by first | assumption | omega) ?_; conv => whnf) | (refine gs_t (by assumption) ?_; conv => whnf) | (refine gs_f (by assumption) ?_; conv => whnf) | (refine gs_d (fun hg => ?_) (fun hg => ?_) <;> conv => whnf) | (refine gs_n (fun hg => ?_) (fun hg => ?_) <;> conv => whnf) | (refine gs_nb (fun hg => ?_) (fun hg => ?_) <;> conv => whnf) | (refine gs_b (fun hg => ?_) (fun hg => ?_) <;> conv => whnf) | refine fin1 rfl rfl ?_))
  all_goals try exact ⟨retB (right_big (by omega)).symm, hn.below⟩
  refine lp_loop tabOk (X := Nat) (fun k => [(1, .pointer (some ⟨g, 0, none⟩)), (3, .int .i64 k)])
    (fun k wr => k ≤ s.cells.length ∧ (∀ j, j < k → cellOk s.vars s.cells[j]! = true) ∧ Below w.heap.size w wr ∧ wr.heap[g]? = some (.cells #[.int .i64 s.vars, .slice A1 s.cells.length c1, .slice A2 s.cons.length c2] 54 (0, 0)))
    (fun k => s.cells.length - k) 0 ⟨rfl, rfl, trivial⟩ ⟨by omega, by omega, hn.below, hb⟩ ?_
  clear hb hn
  intro k G wr ⟨hk, hok, hB, hb⟩
  conv => whnf
  by_cases hlt : k < s.cells.length
  · obtain ⟨x, ad, B, c, hx, rfl, e0, e1, e2, _⟩ := cellsE (h1.up stays_Cell hB) k hlt
    (repeat' (first | (refine wl_Lg tabOk hb rfl rfl rfl rfl rfl rfl rfl (run_l tabOk ?_); conv => whnf) | (refine wl_Xn tabOk 71 3 rfl rfl rfl rfl rfl rfl rfl (by omega) (run_l tabOk ?_); conv => whnf) | (refine wl_La tabOk e0 rfl rfl rfl rfl rfl rfl (run_l tabOk ?_); conv => whnf) | (refine wl_add rfl rfl rfl rfl rfl rfl (by omega) (by omega) (run_l tabOk ?_); conv => whnf) | (refine wl_sub rfl rfl rfl rfl rfl rfl (by omega) (by omega) (run_l tabOk ?_); conv => whnf) | (refine gs_dt (by first | assumption | omega) ?_; conv => whnf) | (refine gs_df (by first | assumption | omega) ?_; conv => whnf) | (refine gs_t (by assumption) ?_; conv => whnf) | (refine gs_f (by assumption) ?_; conv => whnf) | (refine gs_d (fun hg => ?_) (fun hg => ?_) <;> conv => whnf) | (refine gs_n (fun hg => ?_) (fun hg => ?_) <;> conv => whnf) | (refine gs_nb (fun hg => ?_) (fun hg => ?_) <;> conv => whnf) | (refine gs_b (fun hg => ?_) (fun hg => ?_) <;> conv => whnf) | refine fin1 rfl rfl ?_))
    refine wl_alloc tabOk rfl rfl rfl rfl rfl rfl ?_
    intro g2 w2 hn2
    refine wl_Sa tabOk hn2.blk rfl rfl rfl rfl rfl (by simp [Value.oneCell']) rfl rfl ?_
    intro w3 hp
    have hg : g ≠ g2 := by have := blk_lt hb; have := hn2.at_; omega
    have hb3 := hp.old (hn2.old hb) hg
    have hc3 := hp.blk
    have hB3 : Below wr.heap.size wr w3 := hp.below hn2.below (by have := hn2.at_; omega) (by have := hn2.size; omega)
    have hBw := bup hB hB3
    refine run_l tabOk ?_
    conv => whnf
    (repeat' (first | (refine wl_Lg tabOk hb3 rfl rfl rfl rfl rfl rfl rfl (run_l tabOk ?_); conv => whnf) | (refine wl_Lg tabOk hc3 rfl rfl rfl rfl rfl rfl rfl (run_l tabOk ?_); conv => whnf) | ((refine wl_C fn52 (in_any _ _ _ _) rfl rfl rfl rfl rfl rfl rfl ?_); rintro _ _ ⟨rfl, rfl⟩; refine ⟨_, rfl, run_l tabOk ?_⟩; conv => whnf) | (refine wl_add rfl rfl rfl rfl rfl rfl (by omega) (by omega) (run_l tabOk ?_); conv => whnf) | (refine wl_sub rfl rfl rfl rfl rfl rfl (by omega) (by omega) (run_l tabOk ?_); conv => whnf) | (refine gs_dt (by first | assumption | omega) ?_; conv => whnf) | (refine gs_df (by first | assumption | omega) ?_; conv => whnf) | (refine gs_t (by assumption) ?_; conv => whnf) | (refine gs_f (by assumption) ?_; conv => whnf) | (refine gs_d (fun hg => ?_) (fun hg => ?_) <;> conv => whnf) | (refine gs_n (fun hg => ?_) (fun hg => ?_) <;> conv => whnf) | (refine gs_nb (fun hg => ?_) (fun hg => ?_) <;> conv => whnf) | (refine gs_b (fun hg => ?_) (fun hg => ?_) <;> conv => whnf) | refine fin1 rfl rfl ?_))
    all_goals try exact ⟨retB (by rw [right_cell hlt (by rw [hx.out]; first | exact cell_bad1 (by assumption) | exact cell_bad2 (by omega) | exact cell_bad3 (by assumption) (by omega))]), hBw⟩
    all_goals
      refine lp_loop tabOk (X := Nat) (fun j => [(1, .pointer (some ⟨g, 0, none⟩)), (3, .int .i64 k), (4, .pointer (some ⟨g2, 0, none⟩)), (5, .int .i64 j)])
        (fun j wr => j ≤ x.args.length ∧ (∀ t, t < j → inR x.args[t]! 0 s.vars = true) ∧ Below w3.heap.size w3 wr) (fun j => x.args.length - j) 0 ⟨rfl, rfl, rfl, rfl, trivial⟩ ⟨by omega, by omega, Below.refl _ _⟩ ?_
      intro j G4 w4 ⟨hj, hokj, hB4⟩
      conv => whnf
      have hb4 := blk_up hB4 hb3
      have hc4 := blk_up hB4 hc3
      by_cases hjl : j < x.args.length
      · obtain ⟨y, ad2, hy, rfl, f0, _⟩ := intsE (e2.out.up (stays_I _) (bup hB3 hB4)) j hjl
        (repeat' (first | (refine wl_Lg tabOk hb4 rfl rfl rfl rfl rfl rfl rfl (run_l tabOk ?_); conv => whnf) | (refine wl_Lg tabOk hc4 rfl rfl rfl rfl rfl rfl rfl (run_l tabOk ?_); conv => whnf) | (refine wl_add rfl rfl rfl rfl rfl rfl (by omega) (by omega) (run_l tabOk ?_); conv => whnf) | (refine wl_sub rfl rfl rfl rfl rfl rfl (by omega) (by omega) (run_l tabOk ?_); conv => whnf) | (refine gs_dt (by first | assumption | omega) ?_; conv => whnf) | (refine gs_df (by first | assumption | omega) ?_; conv => whnf) | (refine gs_t (by assumption) ?_; conv => whnf) | (refine gs_f (by assumption) ?_; conv => whnf) | (refine gs_d (fun hg => ?_) (fun hg => ?_) <;> conv => whnf) | (refine gs_n (fun hg => ?_) (fun hg => ?_) <;> conv => whnf) | (refine gs_nb (fun hg => ?_) (fun hg => ?_) <;> conv => whnf) | (refine gs_b (fun hg => ?_) (fun hg => ?_) <;> conv => whnf) | refine fin1 rfl rfl ?_))
        try (exfalso; omega)
        all_goals refine wc_qr tabOk mixed (by kernel_rfl) ?_; conv => whnf
        all_goals (repeat' (first | (refine wq_Lg tabOk hb4 rfl rfl rfl rfl rfl rfl rfl (run_q tabOk ?_); conv => whnf) | (refine wq_Lg tabOk hc4 rfl rfl rfl rfl rfl rfl rfl (run_q tabOk ?_); conv => whnf) | (refine wq_L tabOk rfl rfl rfl rfl rfl rfl f0 (run_q tabOk ?_); conv => whnf) | (refine wq_Xn tabOk 3 1 rfl rfl rfl rfl rfl rfl rfl (by omega) (run_q tabOk ?_); conv => whnf) | (refine wq_C fn52 (fun w _ => in_q _ _ _ _) rfl rfl rfl rfl rfl rfl rfl (run_q tabOk ?_); conv => whnf) | (refine wq_add rfl rfl rfl rfl rfl rfl (by omega) (by omega) (run_q tabOk ?_); conv => whnf) | (refine wq_sub rfl rfl rfl rfl rfl rfl (by omega) (by omega) (run_q tabOk ?_); conv => whnf) | (refine gs_dt (by first | assumption | omega) ?_; conv => whnf) | (refine gs_df (by first | assumption | omega) ?_; conv => whnf) | (refine gs_t (by assumption) ?_; conv => whnf) | (refine gs_f (by assumption) ?_; conv => whnf) | (refine gs_d (fun hg => ?_) (fun hg => ?_) <;> conv => whnf) | (refine gs_n (fun hg => ?_) (fun hg => ?_) <;> conv => whnf) | (refine gs_nb (fun hg => ?_) (fun hg => ?_) <;> conv => whnf) | (refine gs_b (fun hg => ?_) (fun hg => ?_) <;> conv => whnf)))
        all_goals intro w5 hB5
        all_goals conv => whnf
        all_goals (repeat' (first | (refine wl_add rfl rfl rfl rfl rfl rfl (by omega) (by omega) (run_l tabOk ?_); conv => whnf) | (refine wl_sub rfl rfl rfl rfl rfl rfl (by omega) (by omega) (run_l tabOk ?_); conv => whnf) | (refine gs_dt (by first | assumption | omega) ?_; conv => whnf) | (refine gs_df (by first | assumption | omega) ?_; conv => whnf) | (refine gs_t (by assumption) ?_; conv => whnf) | (refine gs_f (by assumption) ?_; conv => whnf) | (refine gs_d (fun hg => ?_) (fun hg => ?_) <;> conv => whnf) | (refine gs_n (fun hg => ?_) (fun hg => ?_) <;> conv => whnf) | (refine gs_nb (fun hg => ?_) (fun hg => ?_) <;> conv => whnf) | (refine gs_b (fun hg => ?_) (fun hg => ?_) <;> conv => whnf) | refine fin1 rfl rfl ?_))
        all_goals try exact ⟨retB (by rw [right_cell hlt (by rw [hx.out]; exact cell_arg hjl (by rw [hy.out]; assumption))]), bup hBw (bup hB4 hB5)⟩
        all_goals exact ⟨j + 1, ⟨rfl, rfl, rfl, rfl, trivial⟩, ⟨by omega, all_succ hokj (by rw [hy.out]; assumption), bup hB4 hB5⟩, by omega⟩
      · (repeat' (first | (refine wl_Lg tabOk hb4 rfl rfl rfl rfl rfl rfl rfl (run_l tabOk ?_); conv => whnf) | (refine wl_Lg tabOk hc4 rfl rfl rfl rfl rfl rfl rfl (run_l tabOk ?_); conv => whnf) | (refine wl_add rfl rfl rfl rfl rfl rfl (by omega) (by omega) (run_l tabOk ?_); conv => whnf) | (refine wl_sub rfl rfl rfl rfl rfl rfl (by omega) (by omega) (run_l tabOk ?_); conv => whnf) | (refine gs_dt (by first | assumption | omega) ?_; conv => whnf) | (refine gs_df (by first | assumption | omega) ?_; conv => whnf) | (refine gs_t (by assumption) ?_; conv => whnf) | (refine gs_f (by assumption) ?_; conv => whnf) | (refine gs_d (fun hg => ?_) (fun hg => ?_) <;> conv => whnf) | (refine gs_n (fun hg => ?_) (fun hg => ?_) <;> conv => whnf) | (refine gs_nb (fun hg => ?_) (fun hg => ?_) <;> conv => whnf) | (refine gs_b (fun hg => ?_) (fun hg => ?_) <;> conv => whnf) | refine fin1 rfl rfl ?_))
        exact ⟨k + 1, ⟨rfl, rfl, trivial⟩, ⟨by omega, all_succ hok (by rw [hx.out]; exact cell_ok (by assumption) (by omega) (by first | (left; assumption) | (right; omega)) (all_ge hokj hjl)), bup hBw hB4, blk_up (bup hB3 hB4) hb⟩, by omega⟩
  · have hokA := all_ge hok hlt
    (repeat' (first | (refine wl_Lg tabOk hb rfl rfl rfl rfl rfl rfl rfl (run_l tabOk ?_); conv => whnf) | (refine wl_add rfl rfl rfl rfl rfl rfl (by omega) (by omega) (run_l tabOk ?_); conv => whnf) | (refine wl_sub rfl rfl rfl rfl rfl rfl (by omega) (by omega) (run_l tabOk ?_); conv => whnf) | (refine gs_dt (by first | assumption | omega) ?_; conv => whnf) | (refine gs_df (by first | assumption | omega) ?_; conv => whnf) | (refine gs_t (by assumption) ?_; conv => whnf) | (refine gs_f (by assumption) ?_; conv => whnf) | (refine gs_d (fun hg => ?_) (fun hg => ?_) <;> conv => whnf) | (refine gs_n (fun hg => ?_) (fun hg => ?_) <;> conv => whnf) | (refine gs_nb (fun hg => ?_) (fun hg => ?_) <;> conv => whnf) | (refine gs_b (fun hg => ?_) (fun hg => ?_) <;> conv => whnf) | refine fin1 rfl rfl ?_))
    refine lp_loop tabOk (X := Nat) (fun k => [(1, .pointer (some ⟨g, 0, none⟩)), (6, .int .i64 k)])
      (fun k wr => k ≤ s.cons.length ∧ (∀ j, j < k → conOk s.vars s.cells.length s.cons[j]! = true) ∧ Below w.heap.size w wr ∧ wr.heap[g]? = some (.cells #[.int .i64 s.vars, .slice A1 s.cells.length c1, .slice A2 s.cons.length c2] 54 (0, 0)))
      (fun k => s.cons.length - k) 0 ⟨rfl, rfl, trivial⟩ ⟨by omega, by omega, hB, hb⟩ ?_
    clear hb hB
    intro k G wr ⟨hk, hokc, hB, hb⟩
    conv => whnf
    by_cases hlt : k < s.cons.length
    · obtain ⟨x, ad, B, c, hx, rfl, e0, e1, e2, e3, e4, _⟩ := consE (h2.up stays_Con hB) k hlt
      (repeat' (first | (refine wl_Lg tabOk hb rfl rfl rfl rfl rfl rfl rfl (run_l tabOk ?_); conv => whnf) | (refine wl_Xn tabOk 66 4 rfl rfl rfl rfl rfl rfl rfl (by omega) (run_l tabOk ?_); conv => whnf) | (refine wl_La tabOk e0 rfl rfl rfl rfl rfl rfl (run_l tabOk ?_); conv => whnf) | (refine wl_add rfl rfl rfl rfl rfl rfl (by omega) (by omega) (run_l tabOk ?_); conv => whnf) | (refine wl_sub rfl rfl rfl rfl rfl rfl (by omega) (by omega) (run_l tabOk ?_); conv => whnf) | (refine gs_dt (by first | assumption | omega) ?_; conv => whnf) | (refine gs_df (by first | assumption | omega) ?_; conv => whnf) | (refine gs_t (by assumption) ?_; conv => whnf) | (refine gs_f (by assumption) ?_; conv => whnf) | (refine gs_d (fun hg => ?_) (fun hg => ?_) <;> conv => whnf) | (refine gs_n (fun hg => ?_) (fun hg => ?_) <;> conv => whnf) | (refine gs_nb (fun hg => ?_) (fun hg => ?_) <;> conv => whnf) | (refine gs_b (fun hg => ?_) (fun hg => ?_) <;> conv => whnf) | refine fin1 rfl rfl ?_))
      refine wl_alloc tabOk rfl rfl rfl rfl rfl rfl ?_
      intro g2 w2 hn2
      refine wl_Sa tabOk hn2.blk rfl rfl rfl rfl rfl (by simp [Value.oneCell']) rfl rfl ?_
      intro w3 hp
      have hg : g ≠ g2 := by have := blk_lt hb; have := hn2.at_; omega
      have hb3 := hp.old (hn2.old hb) hg
      have hc3 := hp.blk
      have hB3 : Below wr.heap.size wr w3 := hp.below hn2.below (by have := hn2.at_; omega) (by have := hn2.size; omega)
      have hBw := bup hB hB3
      refine run_l tabOk ?_
      conv => whnf
      (repeat' (first | (refine wl_Lg tabOk hb3 rfl rfl rfl rfl rfl rfl rfl (run_l tabOk ?_); conv => whnf) | (refine wl_Lg tabOk hc3 rfl rfl rfl rfl rfl rfl rfl (run_l tabOk ?_); conv => whnf) | ((refine wl_C fn52 (in_any _ _ _ _) rfl rfl rfl rfl rfl rfl rfl ?_); rintro _ _ ⟨rfl, rfl⟩; refine ⟨_, rfl, run_l tabOk ?_⟩; conv => whnf) | (refine wl_add rfl rfl rfl rfl rfl rfl (by omega) (by omega) (run_l tabOk ?_); conv => whnf) | (refine wl_sub rfl rfl rfl rfl rfl rfl (by omega) (by omega) (run_l tabOk ?_); conv => whnf) | (refine gs_dt (by first | assumption | omega) ?_; conv => whnf) | (refine gs_df (by first | assumption | omega) ?_; conv => whnf) | (refine gs_t (by assumption) ?_; conv => whnf) | (refine gs_f (by assumption) ?_; conv => whnf) | (refine gs_d (fun hg => ?_) (fun hg => ?_) <;> conv => whnf) | (refine gs_n (fun hg => ?_) (fun hg => ?_) <;> conv => whnf) | (refine gs_nb (fun hg => ?_) (fun hg => ?_) <;> conv => whnf) | (refine gs_b (fun hg => ?_) (fun hg => ?_) <;> conv => whnf) | refine fin1 rfl rfl ?_))
      all_goals try exact ⟨retB (by rw [right_con hlt (by rw [hx.out]; exact con_head (by first | exact con_badn (by omega) | exact con_badA5 (by omega) (by assumption) | exact con_badA (by omega) (by assumption) | exact con_badB1 (by omega) (by assumption) | exact con_badB (by omega) (by assumption)))]), hBw⟩
      all_goals
        have hgood : conHead s.vars s.cells.length x = true := by
          first | exact con_good5 (by omega) (by assumption) (by assumption) (by omega) | exact con_good1 (by omega) (by assumption) (by assumption) (by omega) | exact con_goodk (by omega) (by omega) (by omega) (by omega) (by assumption) (by assumption) (by omega)
        refine lp_loop tabOk (X := Nat) (fun j => [(1, .pointer (some ⟨g, 0, none⟩)), (6, .int .i64 k), (7, .pointer (some ⟨g2, 0, none⟩)), (10, .int .i64 j)])
          (fun j wr => j ≤ x.args.length ∧ (∀ t, t < j → inR x.args[t]! (-1) s.vars = true) ∧ Below w3.heap.size w3 wr) (fun j => x.args.length - j) 0 ⟨rfl, rfl, rfl, rfl, trivial⟩ ⟨by omega, by omega, Below.refl _ _⟩ ?_
        intro j G4 w4 ⟨hj, hokj, hB4⟩
        conv => whnf
        have hb4 := blk_up hB4 hb3
        have hc4 := blk_up hB4 hc3
        by_cases hjl : j < x.args.length
        · obtain ⟨y, ad2, hy, rfl, f0, _⟩ := intsE (e2.out.up (stays_I _) (bup hB3 hB4)) j hjl
          (repeat' (first | (refine wl_Lg tabOk hb4 rfl rfl rfl rfl rfl rfl rfl (run_l tabOk ?_); conv => whnf) | (refine wl_Lg tabOk hc4 rfl rfl rfl rfl rfl rfl rfl (run_l tabOk ?_); conv => whnf) | (refine wl_add rfl rfl rfl rfl rfl rfl (by omega) (by omega) (run_l tabOk ?_); conv => whnf) | (refine wl_sub rfl rfl rfl rfl rfl rfl (by omega) (by omega) (run_l tabOk ?_); conv => whnf) | (refine gs_dt (by first | assumption | omega) ?_; conv => whnf) | (refine gs_df (by first | assumption | omega) ?_; conv => whnf) | (refine gs_t (by assumption) ?_; conv => whnf) | (refine gs_f (by assumption) ?_; conv => whnf) | (refine gs_d (fun hg => ?_) (fun hg => ?_) <;> conv => whnf) | (refine gs_n (fun hg => ?_) (fun hg => ?_) <;> conv => whnf) | (refine gs_nb (fun hg => ?_) (fun hg => ?_) <;> conv => whnf) | (refine gs_b (fun hg => ?_) (fun hg => ?_) <;> conv => whnf) | refine fin1 rfl rfl ?_))
          refine wc_qr tabOk mixed (by kernel_rfl) ?_; conv => whnf
          (repeat' (first | (refine wq_Lg tabOk hb4 rfl rfl rfl rfl rfl rfl rfl (run_q tabOk ?_); conv => whnf) | (refine wq_Lg tabOk hc4 rfl rfl rfl rfl rfl rfl rfl (run_q tabOk ?_); conv => whnf) | (refine wq_L tabOk rfl rfl rfl rfl rfl rfl f0 (run_q tabOk ?_); conv => whnf) | (refine wq_Xn tabOk 3 1 rfl rfl rfl rfl rfl rfl rfl (by omega) (run_q tabOk ?_); conv => whnf) | (refine wq_C fn52 (fun w _ => in_q _ _ _ _) rfl rfl rfl rfl rfl rfl rfl (run_q tabOk ?_); conv => whnf) | (refine wq_add rfl rfl rfl rfl rfl rfl (by omega) (by omega) (run_q tabOk ?_); conv => whnf) | (refine wq_sub rfl rfl rfl rfl rfl rfl (by omega) (by omega) (run_q tabOk ?_); conv => whnf) | (refine gs_dt (by first | assumption | omega) ?_; conv => whnf) | (refine gs_df (by first | assumption | omega) ?_; conv => whnf) | (refine gs_t (by assumption) ?_; conv => whnf) | (refine gs_f (by assumption) ?_; conv => whnf) | (refine gs_d (fun hg => ?_) (fun hg => ?_) <;> conv => whnf) | (refine gs_n (fun hg => ?_) (fun hg => ?_) <;> conv => whnf) | (refine gs_nb (fun hg => ?_) (fun hg => ?_) <;> conv => whnf) | (refine gs_b (fun hg => ?_) (fun hg => ?_) <;> conv => whnf)))
          intro w5 hB5
          conv => whnf
          (repeat' (first | (refine wl_add rfl rfl rfl rfl rfl rfl (by omega) (by omega) (run_l tabOk ?_); conv => whnf) | (refine wl_sub rfl rfl rfl rfl rfl rfl (by omega) (by omega) (run_l tabOk ?_); conv => whnf) | (refine gs_dt (by first | assumption | omega) ?_; conv => whnf) | (refine gs_df (by first | assumption | omega) ?_; conv => whnf) | (refine gs_t (by assumption) ?_; conv => whnf) | (refine gs_f (by assumption) ?_; conv => whnf) | (refine gs_d (fun hg => ?_) (fun hg => ?_) <;> conv => whnf) | (refine gs_n (fun hg => ?_) (fun hg => ?_) <;> conv => whnf) | (refine gs_nb (fun hg => ?_) (fun hg => ?_) <;> conv => whnf) | (refine gs_b (fun hg => ?_) (fun hg => ?_) <;> conv => whnf) | refine fin1 rfl rfl ?_))
          all_goals try exact ⟨retB (by rw [right_con hlt (by rw [hx.out]; exact con_arg hjl (by rw [hy.out]; assumption))]), bup hBw (bup hB4 hB5)⟩
          all_goals exact ⟨j + 1, ⟨rfl, rfl, rfl, rfl, trivial⟩, ⟨by omega, all_succ hokj (by rw [hy.out]; assumption), bup hB4 hB5⟩, by omega⟩
        · (repeat' (first | (refine wl_Lg tabOk hb4 rfl rfl rfl rfl rfl rfl rfl (run_l tabOk ?_); conv => whnf) | (refine wl_Lg tabOk hc4 rfl rfl rfl rfl rfl rfl rfl (run_l tabOk ?_); conv => whnf) | (refine wl_add rfl rfl rfl rfl rfl rfl (by omega) (by omega) (run_l tabOk ?_); conv => whnf) | (refine wl_sub rfl rfl rfl rfl rfl rfl (by omega) (by omega) (run_l tabOk ?_); conv => whnf) | (refine gs_dt (by first | assumption | omega) ?_; conv => whnf) | (refine gs_df (by first | assumption | omega) ?_; conv => whnf) | (refine gs_t (by assumption) ?_; conv => whnf) | (refine gs_f (by assumption) ?_; conv => whnf) | (refine gs_d (fun hg => ?_) (fun hg => ?_) <;> conv => whnf) | (refine gs_n (fun hg => ?_) (fun hg => ?_) <;> conv => whnf) | (refine gs_nb (fun hg => ?_) (fun hg => ?_) <;> conv => whnf) | (refine gs_b (fun hg => ?_) (fun hg => ?_) <;> conv => whnf) | refine fin1 rfl rfl ?_))
          exact ⟨k + 1, ⟨rfl, rfl, trivial⟩, ⟨by omega, all_succ hokc (by rw [hx.out]; exact con_ok hgood (all_ge hokj hjl)), bup hBw hB4, blk_up (bup hB3 hB4) hb⟩, by omega⟩
    · (repeat' (first | (refine wl_Lg tabOk hb rfl rfl rfl rfl rfl rfl rfl (run_l tabOk ?_); conv => whnf) | (refine wl_add rfl rfl rfl rfl rfl rfl (by omega) (by omega) (run_l tabOk ?_); conv => whnf) | (refine wl_sub rfl rfl rfl rfl rfl rfl (by omega) (by omega) (run_l tabOk ?_); conv => whnf) | (refine gs_dt (by first | assumption | omega) ?_; conv => whnf) | (refine gs_df (by first | assumption | omega) ?_; conv => whnf) | (refine gs_t (by assumption) ?_; conv => whnf) | (refine gs_f (by assumption) ?_; conv => whnf) | (refine gs_d (fun hg => ?_) (fun hg => ?_) <;> conv => whnf) | (refine gs_n (fun hg => ?_) (fun hg => ?_) <;> conv => whnf) | (refine gs_nb (fun hg => ?_) (fun hg => ?_) <;> conv => whnf) | (refine gs_b (fun hg => ?_) (fun hg => ?_) <;> conv => whnf) | refine fin1 rfl rfl ?_))
      exact ⟨retB (by rw [right_all (by omega) (by omega) (by omega) (by omega) hokA (all_ge hokc hlt)]), hB⟩
end Go.Proofs.YtkjbkalakafnlaaDoor

/- solve.Bound; solve.Least of what may not be; awake; the walks of SolveLeast, SolveRaw. -/
namespace Go.Proofs.YtkjbkalakafnlaaDoor
open Go.RowKit
set_option linter.unusedVariables false
set_option linter.unusedSimpArgs false
set_option maxRecDepth 100000
theorem solveBound (v c : Nat) (hv : v ≤ 16384) (hc : c ≤ 16384) (w : World) : Calls Tryd.prog 37 #[.int .i64 (v : Int), .int .i64 (c : Int)] w fun e w' => e = .returned (.int .i64 ((v : Int) * ((c : Int) + 1) + (v : Int) * (v : Int))) ∧ w = w' := by
  have h1 := mul_bounds (a := (v : Int)) (b := (c : Int) + 1) (m := 16384) (k := 16385) (by omega) (by omega)
  have h2 := mul_bounds (a := (v : Int)) (b := (v : Int)) (m := 16384) (k := 16384) (by omega) (by omega)
  refine enterR (args := [.int .i64 (v : Int), .int .i64 (c : Int)]) tabOk Tryd.func37 rfl Tryd.ntmps37 rfl ?_; conv => whnf
  (repeat' (first | (refine wl_add rfl rfl rfl rfl rfl rfl (by omega) (by omega) (run_l tabOk ?_); conv => whnf) | (refine wl_sub rfl rfl rfl rfl rfl rfl (by omega) (by omega) (run_l tabOk ?_); conv => whnf) | (refine wl_cvA tabOk rfl rfl rfl (by simp only [inK]; omega) rfl rfl rfl (run_l tabOk ?_); conv => whnf) | (refine wl_cvB tabOk rfl rfl rfl rfl rfl rfl (run_l tabOk ?_); conv => whnf) | (refine wl_rem rfl rfl rfl rfl rfl rfl (by omega) (by omega) (fun r hr hr0 hr1 hr2 => run_l tabOk ?_); conv => whnf) | (refine wl_quo rfl rfl rfl rfl rfl rfl (by omega) (by omega) (by simp only [inK]; omega) (run_l tabOk ?_); conv => whnf) | (refine wl_mul rfl rfl rfl rfl rfl rfl (by omega) (by omega) (run_l tabOk ?_); conv => whnf) | (refine gs_dt (by first | assumption | omega) ?_; conv => whnf) | (refine gs_df (by first | assumption | omega) ?_; conv => whnf) | (refine gs_t (by assumption) ?_; conv => whnf) | (refine gs_f (by assumption) ?_; conv => whnf) | (refine gs_d (fun hg => ?_) (fun hg => ?_) <;> conv => whnf) | (refine gs_n (fun hg => ?_) (fun hg => ?_) <;> conv => whnf) | (refine gs_nb (fun hg => ?_) (fun hg => ?_) <;> conv => whnf) | (refine gs_b (fun hg => ?_) (fun hg => ?_) <;> conv => whnf) | refine fin1 rfl rfl ?_))
  exact ⟨rfl, rfl⟩
theorem bound_le {v c k : Nat} (h : k ≤ v * c) : (k : Int) ≤ (v : Int) * ((c : Int) + 1) + (v : Int) * (v : Int) := by
  have h1 : (k : Int) ≤ (v : Int) * (c : Int) := by exact_mod_cast h
  have h2 : (v : Int) * ((c : Int) + 1) = (v : Int) * (c : Int) + (v : Int) := by rw [Int.mul_add, Int.mul_one]
  have h3 : 0 ≤ (v : Int) * (v : Int) := Int.mul_nonneg (by omega) (by omega)
  omega
theorem solveErr (s : Sys) (A1 A2 : Option Addr) (c1 c2 : Nat) (w : World) (h1 : RCells w A1 s.cells) (h2 : RCons w A2 s.cons) (hright : rightB s = false) :
    Calls Tryd.prog 34 #[.agg #[.int .i64 s.vars, .slice A1 s.cells.length c1, .slice A2 s.cons.length c2]] w fun e w' => e = .returned (.tuple #[.slice none 0 0, .int .i64 0, .int .i64 1]) ∧ Below w.heap.size w w' := by
  refine enterR (args := [.agg #[.int .i64 s.vars, .slice A1 s.cells.length c1, .slice A2 s.cons.length c2]]) tabOk Tryd.func34 rfl Tryd.ntmps34 rfl ?_; conv => whnf
  refine wl_box rfl rfl rfl rfl rfl rfl ?_
  intro g0 w1 hn1
  have hb0 := hn1.blk
  have hB1 := hn1.below
  refine run_l tabOk ?_
  conv => whnf
  (repeat' (first | (refine wl_Lag tabOk hb0 rfl rfl rfl rfl rfl rfl (run_l tabOk ?_); conv => whnf) | (refine wl_add rfl rfl rfl rfl rfl rfl (by omega) (by omega) (run_l tabOk ?_); conv => whnf) | (refine wl_sub rfl rfl rfl rfl rfl rfl (by omega) (by omega) (run_l tabOk ?_); conv => whnf) | (refine wl_cvA tabOk rfl rfl rfl (by simp only [inK]; omega) rfl rfl rfl (run_l tabOk ?_); conv => whnf) | (refine wl_cvB tabOk rfl rfl rfl rfl rfl rfl (run_l tabOk ?_); conv => whnf) | (refine wl_rem rfl rfl rfl rfl rfl rfl (by omega) (by omega) (fun r hr hr0 hr1 hr2 => run_l tabOk ?_); conv => whnf) | (refine wl_quo rfl rfl rfl rfl rfl rfl (by omega) (by omega) (by simp only [inK]; omega) (run_l tabOk ?_); conv => whnf) | (refine wl_mul rfl rfl rfl rfl rfl rfl (by omega) (by omega) (run_l tabOk ?_); conv => whnf) | (refine gs_dt (by first | assumption | omega) ?_; conv => whnf) | (refine gs_df (by first | assumption | omega) ?_; conv => whnf) | (refine gs_t (by assumption) ?_; conv => whnf) | (refine gs_f (by assumption) ?_; conv => whnf) | (refine gs_d (fun hg => ?_) (fun hg => ?_) <;> conv => whnf) | (refine gs_n (fun hg => ?_) (fun hg => ?_) <;> conv => whnf) | (refine gs_nb (fun hg => ?_) (fun hg => ?_) <;> conv => whnf) | (refine gs_b (fun hg => ?_) (fun hg => ?_) <;> conv => whnf) | refine fin1 rfl rfl ?_))
  refine wl_C fn46 (sysRight s A1 A2 c1 c2 w1 (h1.up stays_Cell hB1) (h2.up stays_Con hB1)) rfl rfl rfl rfl rfl rfl rfl ?_
  rintro _ w3 ⟨rfl, hB3⟩
  rw [hright]
  refine ⟨_, rfl, run_l tabOk ?_⟩
  conv => whnf
  (repeat' (first | (refine wl_add rfl rfl rfl rfl rfl rfl (by omega) (by omega) (run_l tabOk ?_); conv => whnf) | (refine wl_sub rfl rfl rfl rfl rfl rfl (by omega) (by omega) (run_l tabOk ?_); conv => whnf) | (refine wl_cvA tabOk rfl rfl rfl (by simp only [inK]; omega) rfl rfl rfl (run_l tabOk ?_); conv => whnf) | (refine wl_cvB tabOk rfl rfl rfl rfl rfl rfl (run_l tabOk ?_); conv => whnf) | (refine wl_rem rfl rfl rfl rfl rfl rfl (by omega) (by omega) (fun r hr hr0 hr1 hr2 => run_l tabOk ?_); conv => whnf) | (refine wl_quo rfl rfl rfl rfl rfl rfl (by omega) (by omega) (by simp only [inK]; omega) (run_l tabOk ?_); conv => whnf) | (refine wl_mul rfl rfl rfl rfl rfl rfl (by omega) (by omega) (run_l tabOk ?_); conv => whnf) | (refine gs_dt (by first | assumption | omega) ?_; conv => whnf) | (refine gs_df (by first | assumption | omega) ?_; conv => whnf) | (refine gs_t (by assumption) ?_; conv => whnf) | (refine gs_f (by assumption) ?_; conv => whnf) | (refine gs_d (fun hg => ?_) (fun hg => ?_) <;> conv => whnf) | (refine gs_n (fun hg => ?_) (fun hg => ?_) <;> conv => whnf) | (refine gs_nb (fun hg => ?_) (fun hg => ?_) <;> conv => whnf) | (refine gs_b (fun hg => ?_) (fun hg => ?_) <;> conv => whnf) | refine fin1 rfl rfl ?_))
  exact fin3 rfl rfl rfl rfl ⟨rfl, bup hB1 hB3⟩
/-! ### awake -/
def sys20 : Sys := ⟨(3 : Nat), [⟨false, 2, []⟩], [⟨1, 0, 0, []⟩, ⟨2, 1, 0, []⟩]⟩
theorem least20 : IsLeast sys20 [[true], [true], [false]] := by
  refine ⟨⟨rfl, fun i hi => ?_⟩, fun i hi => ?_, fun N hN i o h => ?_⟩
  · have hi : i < 3 := hi
    match i with
    | 0 => rfl
    | 1 => rfl
    | 2 => rfl
    | i + 3 => omega
  · have hi : i < 2 := hi
    match i with
    | 0 => exact ⟨fun _ => rfl, fun h => absurd h (by decide), fun h => absurd rfl h⟩
    | 1 => exact ⟨fun h => absurd h (by decide), fun _ _ _ o ho => ho, fun _ h => absurd rfl h⟩
    | i + 2 => omega
  · have h0 : mg N 0 0 = true := (hN 0 (by decide)).1 rfl
    have h1 : mg N 1 0 = true := (hN 1 (by decide)).2.1 rfl (by decide) (by decide) 0 h0
    match i, o with
    | 0, 0 => exact h0
    | 1, 0 => exact h1
    | 2, 0 => cases h
    | 0, o + 1 => cases h
    | 1, o + 1 => cases h
    | 2, o + 1 => cases h
    | i + 3, o => cases h
set_option maxHeartbeats 4000000 in
theorem awake20 (w : World) (hT : Tab w) : Calls Tryd.prog 32 #[] w fun e w' => e = .returned (.bool true) ∧ Below w.heap.size w w' := by
  refine enterR (args := []) tabOk Tryd.func32 rfl Tryd.ntmps32 rfl ?_; conv => whnf
  refine wl_bs tabOk 71 3 rfl rfl rfl rfl rfl rfl rfl rfl rfl rfl ?_
  intro g2 w2 hn2
  refine run_l tabOk ?_
  conv => whnf
  refine wl_bs tabOk 66 4 rfl rfl rfl rfl rfl rfl rfl rfl rfl rfl ?_
  intro g3 w3 hn3
  refine run_l tabOk ?_
  conv => whnf
  have hB := hn3.up hn2.below
  have hq1 : RCells w3 (some ⟨g2, 0, none⟩) [⟨false, 2, []⟩] := row_of_blk (hn3.old hn2.blk) (Elems.one rfl (dCell_nil _ _ _ (by decide) (by decide))) (by simp)
  have hq2 : RCons w3 (some ⟨g3, 0, none⟩) [⟨1, 0, 0, []⟩, ⟨2, 1, 0, []⟩] := row_of_blk hn3.blk ((Elems.one rfl (dCon_nil _ 1 0 0 (by decide) (by decide) (by decide))).push rfl (dCon_nil _ 2 1 0 (by decide) (by decide) (by decide))) (by simp)
  refine wl_C fn34 (solveLeast 3 [⟨false, 2, []⟩] [⟨1, 0, 0, []⟩, ⟨2, 1, 0, []⟩] (some ⟨g2, 0, none⟩) (some ⟨g3, 0, none⟩) 1 2 w3 hq1 hq2 (by decide) (hT.up hB)) rfl rfl rfl rfl rfl rfl rfl ?_
  rintro _ w4 ⟨M, A, cap, k, rfl, hIL, hrr, _, hk, hB4⟩
  have hM : M = [[true], [true], [false]] := hIL.unique least20
  subst hM
  have e1 : ptsOf [[true], [true], [false]] = [[0], [0], []] := by decide
  rw [e1] at hrr
  have hk : k ≤ 3 := hk
  obtain ⟨x, ad, D, dc, hx, rfl, f0, _, _⟩ := rowsE hrr 0 (by simp)
  have hx' : x = [0] := hx.out.symm
  subst hx'
  obtain ⟨y, ad', D', dc', hy, hA', f1, _, _⟩ := rowsE hrr 1 (by simp)
  have hy' : y = [0] := hy.out.symm
  subst hy'
  cases hA'
  refine ⟨_, rfl, run_l tabOk ?_⟩
  conv => whnf
  (repeat' (first | (refine wl_L tabOk rfl rfl rfl rfl rfl rfl f0 (run_l tabOk ?_); conv => whnf) | (refine wl_L tabOk rfl rfl rfl rfl rfl rfl f1 (run_l tabOk ?_); conv => whnf) | (refine wl_X tabOk 46 1 rfl rfl rfl rfl rfl rfl rfl (by omega) (by omega) (run_l tabOk ?_); conv => whnf) | ((refine wl_C fn37 (solveBound 3 1 (by omega) (by omega) _) rfl rfl rfl rfl rfl rfl rfl ?_); rintro _ _ ⟨rfl, rfl⟩; refine ⟨_, rfl, run_l tabOk ?_⟩; conv => whnf) | (refine wl_add rfl rfl rfl rfl rfl rfl (by omega) (by omega) (run_l tabOk ?_); conv => whnf) | (refine wl_sub rfl rfl rfl rfl rfl rfl (by omega) (by omega) (run_l tabOk ?_); conv => whnf) | (refine wl_cvA tabOk rfl rfl rfl (by simp only [inK]; omega) rfl rfl rfl (run_l tabOk ?_); conv => whnf) | (refine wl_cvB tabOk rfl rfl rfl rfl rfl rfl (run_l tabOk ?_); conv => whnf) | (refine wl_rem rfl rfl rfl rfl rfl rfl (by omega) (by omega) (fun r hr hr0 hr1 hr2 => run_l tabOk ?_); conv => whnf) | (refine wl_quo rfl rfl rfl rfl rfl rfl (by omega) (by omega) (by simp only [inK]; omega) (run_l tabOk ?_); conv => whnf) | (refine wl_mul rfl rfl rfl rfl rfl rfl (by omega) (by omega) (run_l tabOk ?_); conv => whnf) | (refine gs_dt (by first | assumption | omega) ?_; conv => whnf) | (refine gs_df (by first | assumption | omega) ?_; conv => whnf) | (refine gs_t (by assumption) ?_; conv => whnf) | (refine gs_f (by assumption) ?_; conv => whnf) | (refine gs_d (fun hg => ?_) (fun hg => ?_) <;> conv => whnf) | (refine gs_n (fun hg => ?_) (fun hg => ?_) <;> conv => whnf) | (refine gs_nb (fun hg => ?_) (fun hg => ?_) <;> conv => whnf) | (refine gs_b (fun hg => ?_) (fun hg => ?_) <;> conv => whnf) | refine fin1 rfl rfl ?_))
  exact ⟨by rw [show decide (((3 : Nat) : Int) * (((1 : Nat) : Int) + 1) + ((3 : Nat) : Int) * ((3 : Nat) : Int) = 15) = true from by decide], bup hB hB4⟩
end Go.Proofs.YtkjbkalakafnlaaDoor
