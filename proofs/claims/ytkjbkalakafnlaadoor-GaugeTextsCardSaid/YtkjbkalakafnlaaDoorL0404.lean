/- The walks of GaugeBest, GaugeMeans. -/
import Derived.Test.YtkjbkalakafnlaaDoorL0403
import Derived.Test.YtkjbkalakafnlaaDoorU0
namespace Go.Proofs.YtkjbkalakafnlaaDoor
open Go.RowKit
set_option linter.unusedVariables false
set_option linter.unusedSimpArgs false
set_option maxRecDepth 100000
theorem stays_U64 : Stays (dI .u64) := ⟨fun _ _ _ _ _ h => h⟩
section
variable {H : Type} {enc : TypeId × Value → H} {w : World} {base : Nat} {spare : Nat → Bool} {held : Bool}
theorem cellsU64 : Tryd.prog.cellsOf 26 = 1 := by kernel_rfl
theorem opens_U64s : Opens enc Tryd.prog w base spare held 36 (dS 1 (dI .u64)) := opens_S (sz := 1) Tryd.underlying36 cellsU64 (opens_I Tryd.underlying26)
end
abbrev GFl (base : Nat) (w : World) (v : Value) (xs : List Nat) := GRow 1 dF 22 base w v xs []
theorem gfl_push {base : Nat} {w w1 : World} {v v' : Value} {ys : List Nat} {flat : List Value} {y : Nat} (h : GFl base w v ys) (hflat : ∀ w', (∀ b ∈ ([] : List Nat), w'.heap[b]? = w.heap[b]?) → Elems 1 dF w' flat ys) (hown : w1.ownsRow base 22 1 v' (ys.length + 1) (flat ++ [.float .f64 y])) (hg : w.grownBy w1 v.ownBlock)
    (hob : v'.ownBlock = v.ownBlock ∨ v'.ownBlock = some w.heap.size) : GFl base w1 v' (ys ++ [y]) := by
  have := h.push hflat hown hg hob rfl (bs' := []) (x := y) (fun w' _ => rfl) (by simp) (by simp)
  simpa using this
theorem u64E {w : World} {A : Option Addr} {xs : List Int} (h : RowR 1 (dI .u64) w A xs) (i : Nat) (hi : i < xs.length) : ∃ ad n, A = some ad ∧ xs[i]! = (n : Nat) ∧ n < 18446744073709551616 ∧ w.cell? (ad.add (i * 1)) = some (.int .u64 (n : Int)) := by
  obtain ⟨ad, cs, e, l, hc, hd⟩ := row_at h i hi
  obtain ⟨h1, h2⟩ := hd
  have h2 : 0 ≤ xs[i]! ∧ xs[i]! ≤ 18446744073709551615 := h2
  rw [h1] at hc
  obtain ⟨n, hn⟩ : ∃ n : Nat, xs[i]! = n := ⟨xs[i]!.toNat, by omega⟩
  rw [hn] at hc
  exact ⟨ad, n, e, hn, by omega, hc.1⟩
theorem takeF_next {xs : List Int} {i : Nat} {n : Nat} (hi : i < xs.length) (hn : xs[i]! = (n : Nat)) : (xs.take (i + 1)).map Int.toNat = (xs.take i).map Int.toNat ++ [n] := by
  rw [List.take_succ_eq_append_getElem hi, List.map_append]
  congr 1
  rw [getElem!_pos xs i hi] at hn
  simp [hn]
set_option maxHeartbeats 8000000 in
theorem lawGaugeBest (bits : List Int) (A : Option Addr) (c : Nat) (w : World) (h : RowR 1 (dI .u64) w A bits) (hlc : bits.length ≤ c) :
    Calls Tryd.prog 6 #[.slice A bits.length c] w fun e w' => e = .returned (.bool true) ∧ Below w.heap.size w w' := by
  have hm := h.1
  refine enterR (args := [.slice A bits.length c]) tabOk Tryd.func6 rfl Tryd.ntmps6 rfl ?_; conv => whnf
  refine wl_C fn19 (awake04 w) rfl rfl rfl rfl rfl rfl rfl ?_
  rintro _ w1 ⟨rfl, hB1⟩
  refine ⟨_, rfl, run_l tabOk ?_⟩
  conv => whnf
  by_cases hbig : 30 < bits.length
  · (repeat' (first | (refine wl_add rfl rfl rfl rfl rfl rfl (by omega) (by omega) (run_l tabOk ?_); conv => whnf) | (refine wl_sub rfl rfl rfl rfl rfl rfl (by omega) (by omega) (run_l tabOk ?_); conv => whnf) | (refine wl_cvA tabOk rfl rfl rfl (by simp only [inK]; omega) rfl rfl rfl (run_l tabOk ?_); conv => whnf) | (refine wl_cvB tabOk rfl rfl rfl rfl rfl rfl (run_l tabOk ?_); conv => whnf) | (refine wl_rem rfl rfl rfl rfl rfl rfl (by omega) (by omega) (fun r hr hr0 hr1 hr2 => run_l tabOk ?_); conv => whnf) | (refine wl_quo rfl rfl rfl rfl rfl rfl (by omega) (by omega) (by simp only [inK]; omega) (run_l tabOk ?_); conv => whnf) | (refine wl_mul rfl rfl rfl rfl rfl rfl (by omega) (by omega) (run_l tabOk ?_); conv => whnf) | (refine gs_dt (by first | assumption | omega) ?_; conv => whnf) | (refine gs_df (by first | assumption | omega) ?_; conv => whnf) | (refine gs_t (by assumption) ?_; conv => whnf) | (refine gs_f (by assumption) ?_; conv => whnf) | (refine gs_d (fun hg => ?_) (fun hg => ?_) <;> conv => whnf) | (refine gs_n (fun hg => ?_) (fun hg => ?_) <;> conv => whnf) | (refine gs_nb (fun hg => ?_) (fun hg => ?_) <;> conv => whnf) | (refine gs_b (fun hg => ?_) (fun hg => ?_) <;> conv => whnf) | refine fin1 rfl rfl ?_))
    refine wl_C fn19 (awake04 w1) rfl rfl rfl rfl rfl rfl rfl ?_
    rintro _ w2 ⟨rfl, hB2⟩
    refine ⟨_, rfl, run_l tabOk ?_⟩
    conv => whnf
    (repeat' (first | (refine wl_add rfl rfl rfl rfl rfl rfl (by omega) (by omega) (run_l tabOk ?_); conv => whnf) | (refine wl_sub rfl rfl rfl rfl rfl rfl (by omega) (by omega) (run_l tabOk ?_); conv => whnf) | (refine wl_cvA tabOk rfl rfl rfl (by simp only [inK]; omega) rfl rfl rfl (run_l tabOk ?_); conv => whnf) | (refine wl_cvB tabOk rfl rfl rfl rfl rfl rfl (run_l tabOk ?_); conv => whnf) | (refine wl_rem rfl rfl rfl rfl rfl rfl (by omega) (by omega) (fun r hr hr0 hr1 hr2 => run_l tabOk ?_); conv => whnf) | (refine wl_quo rfl rfl rfl rfl rfl rfl (by omega) (by omega) (by simp only [inK]; omega) (run_l tabOk ?_); conv => whnf) | (refine wl_mul rfl rfl rfl rfl rfl rfl (by omega) (by omega) (run_l tabOk ?_); conv => whnf) | (refine gs_dt (by first | assumption | omega) ?_; conv => whnf) | (refine gs_df (by first | assumption | omega) ?_; conv => whnf) | (refine gs_t (by assumption) ?_; conv => whnf) | (refine gs_f (by assumption) ?_; conv => whnf) | (refine gs_d (fun hg => ?_) (fun hg => ?_) <;> conv => whnf) | (refine gs_n (fun hg => ?_) (fun hg => ?_) <;> conv => whnf) | (refine gs_nb (fun hg => ?_) (fun hg => ?_) <;> conv => whnf) | (refine gs_b (fun hg => ?_) (fun hg => ?_) <;> conv => whnf) | refine fin1 rfl rfl ?_))
    exact ⟨rfl, bup hB1 hB2⟩
  (repeat' (first | (refine wl_add rfl rfl rfl rfl rfl rfl (by omega) (by omega) (run_l tabOk ?_); conv => whnf) | (refine wl_sub rfl rfl rfl rfl rfl rfl (by omega) (by omega) (run_l tabOk ?_); conv => whnf) | (refine wl_cvA tabOk rfl rfl rfl (by simp only [inK]; omega) rfl rfl rfl (run_l tabOk ?_); conv => whnf) | (refine wl_cvB tabOk rfl rfl rfl rfl rfl rfl (run_l tabOk ?_); conv => whnf) | (refine wl_rem rfl rfl rfl rfl rfl rfl (by omega) (by omega) (fun r hr hr0 hr1 hr2 => run_l tabOk ?_); conv => whnf) | (refine wl_quo rfl rfl rfl rfl rfl rfl (by omega) (by omega) (by simp only [inK]; omega) (run_l tabOk ?_); conv => whnf) | (refine wl_mul rfl rfl rfl rfl rfl rfl (by omega) (by omega) (run_l tabOk ?_); conv => whnf) | (refine gs_dt (by first | assumption | omega) ?_; conv => whnf) | (refine gs_df (by first | assumption | omega) ?_; conv => whnf) | (refine gs_t (by assumption) ?_; conv => whnf) | (refine gs_f (by assumption) ?_; conv => whnf) | (refine gs_d (fun hg => ?_) (fun hg => ?_) <;> conv => whnf) | (refine gs_n (fun hg => ?_) (fun hg => ?_) <;> conv => whnf) | (refine gs_nb (fun hg => ?_) (fun hg => ?_) <;> conv => whnf) | (refine gs_b (fun hg => ?_) (fun hg => ?_) <;> conv => whnf) | refine fin1 rfl rfl ?_))
  refine lp_loop tabOk (X := Nat × Option Addr × Nat) (fun x => [(0, .slice A bits.length c), (3, .slice x.2.1 x.1 x.2.2), (4, .int .i64 x.1)])
    (fun x wr => x.1 ≤ bits.length ∧ GFl w.heap.size wr (.slice x.2.1 x.1 x.2.2) ((bits.take x.1).map Int.toNat) ∧ Below w.heap.size w wr) (fun x => bits.length - x.1) (0, none, 0) ⟨rfl, rfl, rfl, trivial⟩ ⟨by simp, GRow.nil .., hB1⟩ ?_
  rintro ⟨i, D, dc⟩ G wr ⟨hi, hI, hB⟩
  simp only at hi hI
  dsimp only
  conv => whnf
  by_cases hlt : i < bits.length
  · obtain ⟨ad, n, rfl, hn, hn64, f0⟩ := u64E (h.up stays_U64 hB) i hlt
    (repeat' (first | (refine wl_L tabOk rfl rfl rfl rfl rfl rfl f0 (run_l tabOk ?_); conv => whnf) | (refine wl_Xn tabOk 26 1 rfl rfl rfl rfl rfl rfl rfl (by omega) (run_l tabOk ?_); conv => whnf) | (refine wl_CE extFrom rfl rfl rfl rfl rfl rfl rfl rfl (run_l tabOk ?_); (conv => whnf)) | (refine wl_add rfl rfl rfl rfl rfl rfl (by omega) (by omega) (run_l tabOk ?_); conv => whnf) | (refine wl_sub rfl rfl rfl rfl rfl rfl (by omega) (by omega) (run_l tabOk ?_); conv => whnf) | (refine wl_cvA tabOk rfl rfl rfl (by simp only [inK]; omega) rfl rfl rfl (run_l tabOk ?_); conv => whnf) | (refine wl_cvB tabOk rfl rfl rfl rfl rfl rfl (run_l tabOk ?_); conv => whnf) | (refine wl_rem rfl rfl rfl rfl rfl rfl (by omega) (by omega) (fun r hr hr0 hr1 hr2 => run_l tabOk ?_); conv => whnf) | (refine wl_quo rfl rfl rfl rfl rfl rfl (by omega) (by omega) (by simp only [inK]; omega) (run_l tabOk ?_); conv => whnf) | (refine wl_mul rfl rfl rfl rfl rfl rfl (by omega) (by omega) (run_l tabOk ?_); conv => whnf) | (refine gs_dt (by first | assumption | omega) ?_; conv => whnf) | (refine gs_df (by first | assumption | omega) ?_; conv => whnf) | (refine gs_t (by assumption) ?_; conv => whnf) | (refine gs_f (by assumption) ?_; conv => whnf) | (refine gs_d (fun hg => ?_) (fun hg => ?_) <;> conv => whnf) | (refine gs_n (fun hg => ?_) (fun hg => ?_) <;> conv => whnf) | (refine gs_nb (fun hg => ?_) (fun hg => ?_) <;> conv => whnf) | (refine gs_b (fun hg => ?_) (fun hg => ?_) <;> conv => whnf) | refine fin1 rfl rfl ?_))
    refine wl_bs tabOk 22 1 rfl rfl rfl rfl rfl rfl rfl rfl rfl rfl ?_
    intro g w2 hn2
    refine run_l tabOk ?_
    conv => whnf
    have hlen : ((bits.take i).map Int.toNat).length = i := by simp; omega
    have hI2 := hI.below hn2.below
    obtain ⟨flat, hfl, hel⟩ := hI2.own
    rw [hlen] at hfl
    have hs2 := hB.size
    have hs3 := hn2.below.size
    refine wl_ap tabOk 22 1 8 hfl hn2.blk rfl rfl rfl rfl rfl rfl rfl rfl rfl rfl rfl rfl (by simp [Value.oneCell']) (by omega) (by omega) (by omega) ?_
    intro A3 cap3 w3 hown hgr hob
    have hnew := gfl_push hI2 hel (by rw [hlen]; exact hown) hgr hob (y := n)
    rw [← takeF_next hlt hn] at hnew
    have hB3 : Below w.heap.size w w3 := (bup hB hn2.below).grown hgr (by omega) (fun k hk => (hI2.olt k hk).1)
    refine run_l tabOk ?_
    conv => whnf
    (repeat' (first | (refine wl_add rfl rfl rfl rfl rfl rfl (by omega) (by omega) (run_l tabOk ?_); conv => whnf) | (refine wl_sub rfl rfl rfl rfl rfl rfl (by omega) (by omega) (run_l tabOk ?_); conv => whnf) | (refine wl_cvA tabOk rfl rfl rfl (by simp only [inK]; omega) rfl rfl rfl (run_l tabOk ?_); conv => whnf) | (refine wl_cvB tabOk rfl rfl rfl rfl rfl rfl (run_l tabOk ?_); conv => whnf) | (refine wl_rem rfl rfl rfl rfl rfl rfl (by omega) (by omega) (fun r hr hr0 hr1 hr2 => run_l tabOk ?_); conv => whnf) | (refine wl_quo rfl rfl rfl rfl rfl rfl (by omega) (by omega) (by simp only [inK]; omega) (run_l tabOk ?_); conv => whnf) | (refine wl_mul rfl rfl rfl rfl rfl rfl (by omega) (by omega) (run_l tabOk ?_); conv => whnf) | (refine gs_dt (by first | assumption | omega) ?_; conv => whnf) | (refine gs_df (by first | assumption | omega) ?_; conv => whnf) | (refine gs_t (by assumption) ?_; conv => whnf) | (refine gs_f (by assumption) ?_; conv => whnf) | (refine gs_d (fun hg => ?_) (fun hg => ?_) <;> conv => whnf) | (refine gs_n (fun hg => ?_) (fun hg => ?_) <;> conv => whnf) | (refine gs_nb (fun hg => ?_) (fun hg => ?_) <;> conv => whnf) | (refine gs_b (fun hg => ?_) (fun hg => ?_) <;> conv => whnf) | refine fin1 rfl rfl ?_))
    exact ⟨(i + 1, A3, cap3), ⟨rfl, rfl, rfl, trivial⟩, ⟨by simp only; omega, hnew, hB3⟩, by simp only; omega⟩
  · obtain rfl : i = bits.length := by omega
    rw [List.take_length] at hI
    obtain ⟨A', c', e, _, hrow⟩ := hI.row
    have hlen : (bits.map Int.toNat).length = bits.length := by simp
    rw [hlen] at e
    injection e with e1 e2 e3
    subst e1 e3
    (repeat' (first | (refine wl_add rfl rfl rfl rfl rfl rfl (by omega) (by omega) (run_l tabOk ?_); conv => whnf) | (refine wl_sub rfl rfl rfl rfl rfl rfl (by omega) (by omega) (run_l tabOk ?_); conv => whnf) | (refine wl_cvA tabOk rfl rfl rfl (by simp only [inK]; omega) rfl rfl rfl (run_l tabOk ?_); conv => whnf) | (refine wl_cvB tabOk rfl rfl rfl rfl rfl rfl (run_l tabOk ?_); conv => whnf) | (refine wl_rem rfl rfl rfl rfl rfl rfl (by omega) (by omega) (fun r hr hr0 hr1 hr2 => run_l tabOk ?_); conv => whnf) | (refine wl_quo rfl rfl rfl rfl rfl rfl (by omega) (by omega) (by simp only [inK]; omega) (run_l tabOk ?_); conv => whnf) | (refine wl_mul rfl rfl rfl rfl rfl rfl (by omega) (by omega) (run_l tabOk ?_); conv => whnf) | (refine gs_dt (by first | assumption | omega) ?_; conv => whnf) | (refine gs_df (by first | assumption | omega) ?_; conv => whnf) | (refine gs_t (by assumption) ?_; conv => whnf) | (refine gs_f (by assumption) ?_; conv => whnf) | (refine gs_d (fun hg => ?_) (fun hg => ?_) <;> conv => whnf) | (refine gs_n (fun hg => ?_) (fun hg => ?_) <;> conv => whnf) | (refine gs_nb (fun hg => ?_) (fun hg => ?_) <;> conv => whnf) | (refine gs_b (fun hg => ?_) (fun hg => ?_) <;> conv => whnf) | refine fin1 rfl rfl ?_))
    have hgb := gBest (bits.map Int.toNat) D dc wr hrow
    rw [hlen] at hgb
    refine wl_C fn28 hgb rfl rfl rfl rfl rfl rfl rfl ?_
    rintro _ _ ⟨k, rfl, hk, rfl⟩
    refine ⟨_, rfl, run_l tabOk ?_⟩
    conv => whnf
    rcases hk with ⟨h0, rfl⟩ | ⟨n, rfl, hn, hle, hfst⟩
    · rw [h0]
      (repeat' (first | (refine wl_add rfl rfl rfl rfl rfl rfl (by omega) (by omega) (run_l tabOk ?_); conv => whnf) | (refine wl_sub rfl rfl rfl rfl rfl rfl (by omega) (by omega) (run_l tabOk ?_); conv => whnf) | (refine wl_cvA tabOk rfl rfl rfl (by simp only [inK]; omega) rfl rfl rfl (run_l tabOk ?_); conv => whnf) | (refine wl_cvB tabOk rfl rfl rfl rfl rfl rfl (run_l tabOk ?_); conv => whnf) | (refine wl_rem rfl rfl rfl rfl rfl rfl (by omega) (by omega) (fun r hr hr0 hr1 hr2 => run_l tabOk ?_); conv => whnf) | (refine wl_quo rfl rfl rfl rfl rfl rfl (by omega) (by omega) (by simp only [inK]; omega) (run_l tabOk ?_); conv => whnf) | (refine wl_mul rfl rfl rfl rfl rfl rfl (by omega) (by omega) (run_l tabOk ?_); conv => whnf) | (refine gs_dt (by first | assumption | omega) ?_; conv => whnf) | (refine gs_df (by first | assumption | omega) ?_; conv => whnf) | (refine gs_t (by assumption) ?_; conv => whnf) | (refine gs_f (by assumption) ?_; conv => whnf) | (refine gs_d (fun hg => ?_) (fun hg => ?_) <;> conv => whnf) | (refine gs_n (fun hg => ?_) (fun hg => ?_) <;> conv => whnf) | (refine gs_nb (fun hg => ?_) (fun hg => ?_) <;> conv => whnf) | (refine gs_b (fun hg => ?_) (fun hg => ?_) <;> conv => whnf) | refine fin1 rfl rfl ?_))
      exact ⟨rfl, hB⟩
    · (repeat' (first | (refine wl_add rfl rfl rfl rfl rfl rfl (by omega) (by omega) (run_l tabOk ?_); conv => whnf) | (refine wl_sub rfl rfl rfl rfl rfl rfl (by omega) (by omega) (run_l tabOk ?_); conv => whnf) | (refine wl_cvA tabOk rfl rfl rfl (by simp only [inK]; omega) rfl rfl rfl (run_l tabOk ?_); conv => whnf) | (refine wl_cvB tabOk rfl rfl rfl rfl rfl rfl (run_l tabOk ?_); conv => whnf) | (refine wl_rem rfl rfl rfl rfl rfl rfl (by omega) (by omega) (fun r hr hr0 hr1 hr2 => run_l tabOk ?_); conv => whnf) | (refine wl_quo rfl rfl rfl rfl rfl rfl (by omega) (by omega) (by simp only [inK]; omega) (run_l tabOk ?_); conv => whnf) | (refine wl_mul rfl rfl rfl rfl rfl rfl (by omega) (by omega) (run_l tabOk ?_); conv => whnf) | (refine gs_dt (by first | assumption | omega) ?_; conv => whnf) | (refine gs_df (by first | assumption | omega) ?_; conv => whnf) | (refine gs_t (by assumption) ?_; conv => whnf) | (refine gs_f (by assumption) ?_; conv => whnf) | (refine gs_d (fun hg => ?_) (fun hg => ?_) <;> conv => whnf) | (refine gs_n (fun hg => ?_) (fun hg => ?_) <;> conv => whnf) | (refine gs_nb (fun hg => ?_) (fun hg => ?_) <;> conv => whnf) | (refine gs_b (fun hg => ?_) (fun hg => ?_) <;> conv => whnf) | refine fin1 rfl rfl ?_))
      refine lp_loop tabOk (X := Nat) (fun x => [(3, .slice D bits.length dc), (5, .int .i64 n), (6, .int .i64 x)])
        (fun x wk => x ≤ bits.length ∧ Below wr.heap.size wr wk) (fun x => bits.length - x) 0 ⟨rfl, rfl, rfl, trivial⟩ ⟨by simp, Below.refl _ _⟩ ?_
      intro j G2 wk ⟨hj, hBk⟩
      conv => whnf
      by_cases hjl : j < bits.length
      · have hrk := hrow.up stays_F hBk
        obtain ⟨ad, rfl, f0⟩ := floatsE hrk n (by rw [hlen]; exact hn)
        obtain ⟨ad', e, f1⟩ := floatsE hrk j (by rw [hlen]; exact hjl)
        cases e
        have l1 : decide (standF (bits.map Int.toNat)[n]! < standF (bits.map Int.toNat)[j]!) = false := decide_eq_false (by have := hle j hjl; omega)
        (repeat' (first | (refine wl_add rfl rfl rfl rfl rfl rfl (by omega) (by omega) (run_l tabOk ?_); conv => whnf) | (refine wl_sub rfl rfl rfl rfl rfl rfl (by omega) (by omega) (run_l tabOk ?_); conv => whnf) | (refine wl_cvA tabOk rfl rfl rfl (by simp only [inK]; omega) rfl rfl rfl (run_l tabOk ?_); conv => whnf) | (refine wl_cvB tabOk rfl rfl rfl rfl rfl rfl (run_l tabOk ?_); conv => whnf) | (refine wl_rem rfl rfl rfl rfl rfl rfl (by omega) (by omega) (fun r hr hr0 hr1 hr2 => run_l tabOk ?_); conv => whnf) | (refine wl_quo rfl rfl rfl rfl rfl rfl (by omega) (by omega) (by simp only [inK]; omega) (run_l tabOk ?_); conv => whnf) | (refine wl_mul rfl rfl rfl rfl rfl rfl (by omega) (by omega) (run_l tabOk ?_); conv => whnf) | (refine gs_dt (by first | assumption | omega) ?_; conv => whnf) | (refine gs_df (by first | assumption | omega) ?_; conv => whnf) | (refine gs_t (by assumption) ?_; conv => whnf) | (refine gs_f (by assumption) ?_; conv => whnf) | (refine gs_d (fun hg => ?_) (fun hg => ?_) <;> conv => whnf) | (refine gs_n (fun hg => ?_) (fun hg => ?_) <;> conv => whnf) | (refine gs_nb (fun hg => ?_) (fun hg => ?_) <;> conv => whnf) | (refine gs_b (fun hg => ?_) (fun hg => ?_) <;> conv => whnf) | refine fin1 rfl rfl ?_))
        by_cases hjn : j < n
        · have l2 : decide (standF (bits.map Int.toNat)[j]! < standF (bits.map Int.toNat)[n]!) = true := decide_eq_true (hfst j hjn)
          refine wc_qr tabOk mixed (by kernel_rfl) ?_; conv => whnf
          (repeat' (first | (refine wq_L tabOk rfl rfl rfl rfl rfl rfl f0 (run_q tabOk ?_); conv => whnf) | (refine wq_L tabOk rfl rfl rfl rfl rfl rfl f1 (run_q tabOk ?_); conv => whnf) | (refine wq_Xn tabOk 22 1 rfl rfl rfl rfl rfl rfl rfl (by omega) (run_q tabOk ?_); conv => whnf) | (refine wq_C fn29 (fun w' _ => gLessB _ _ w' _ l1) rfl rfl rfl rfl rfl rfl rfl (run_q tabOk ?_); (conv => whnf)) | (refine wq_C fn29 (fun w' _ => gLessB _ _ w' _ l2) rfl rfl rfl rfl rfl rfl rfl (run_q tabOk ?_); (conv => whnf)) | (refine wq_add rfl rfl rfl rfl rfl rfl (by omega) (by omega) (run_q tabOk ?_); conv => whnf) | (refine wq_sub rfl rfl rfl rfl rfl rfl (by omega) (by omega) (run_q tabOk ?_); conv => whnf) | (refine wq_cvA tabOk rfl rfl rfl (by simp only [inK]; omega) rfl rfl rfl (run_q tabOk ?_); conv => whnf) | (refine wq_cvB tabOk rfl rfl rfl rfl rfl rfl (run_q tabOk ?_); conv => whnf) | (refine wq_rem rfl rfl rfl rfl rfl rfl (by omega) (by omega) (fun r hr hr0 hr1 hr2 => run_q tabOk ?_); conv => whnf) | (refine wq_quo rfl rfl rfl rfl rfl rfl (by omega) (by omega) (by simp only [inK]; omega) (run_q tabOk ?_); conv => whnf) | (refine wq_mul rfl rfl rfl rfl rfl rfl (by omega) (by omega) (run_q tabOk ?_); conv => whnf) | (refine gs_dt (by first | assumption | omega) ?_; conv => whnf) | (refine gs_df (by first | assumption | omega) ?_; conv => whnf) | (refine gs_t (by assumption) ?_; conv => whnf) | (refine gs_f (by assumption) ?_; conv => whnf) | (refine gs_d (fun hg => ?_) (fun hg => ?_) <;> conv => whnf) | (refine gs_n (fun hg => ?_) (fun hg => ?_) <;> conv => whnf) | (refine gs_nb (fun hg => ?_) (fun hg => ?_) <;> conv => whnf) | (refine gs_b (fun hg => ?_) (fun hg => ?_) <;> conv => whnf)))
          intro w4 hB4
          conv => whnf
          (repeat' (first | (refine wl_add rfl rfl rfl rfl rfl rfl (by omega) (by omega) (run_l tabOk ?_); conv => whnf) | (refine wl_sub rfl rfl rfl rfl rfl rfl (by omega) (by omega) (run_l tabOk ?_); conv => whnf) | (refine wl_cvA tabOk rfl rfl rfl (by simp only [inK]; omega) rfl rfl rfl (run_l tabOk ?_); conv => whnf) | (refine wl_cvB tabOk rfl rfl rfl rfl rfl rfl (run_l tabOk ?_); conv => whnf) | (refine wl_rem rfl rfl rfl rfl rfl rfl (by omega) (by omega) (fun r hr hr0 hr1 hr2 => run_l tabOk ?_); conv => whnf) | (refine wl_quo rfl rfl rfl rfl rfl rfl (by omega) (by omega) (by simp only [inK]; omega) (run_l tabOk ?_); conv => whnf) | (refine wl_mul rfl rfl rfl rfl rfl rfl (by omega) (by omega) (run_l tabOk ?_); conv => whnf) | (refine gs_dt (by first | assumption | omega) ?_; conv => whnf) | (refine gs_df (by first | assumption | omega) ?_; conv => whnf) | (refine gs_t (by assumption) ?_; conv => whnf) | (refine gs_f (by assumption) ?_; conv => whnf) | (refine gs_d (fun hg => ?_) (fun hg => ?_) <;> conv => whnf) | (refine gs_n (fun hg => ?_) (fun hg => ?_) <;> conv => whnf) | (refine gs_nb (fun hg => ?_) (fun hg => ?_) <;> conv => whnf) | (refine gs_b (fun hg => ?_) (fun hg => ?_) <;> conv => whnf) | refine fin1 rfl rfl ?_))
          exact ⟨j + 1, ⟨rfl, rfl, rfl, trivial⟩, ⟨by omega, bup hBk hB4⟩, by omega⟩
        · refine wc_qr tabOk mixed (by kernel_rfl) ?_; conv => whnf
          (repeat' (first | (refine wq_L tabOk rfl rfl rfl rfl rfl rfl f0 (run_q tabOk ?_); conv => whnf) | (refine wq_L tabOk rfl rfl rfl rfl rfl rfl f1 (run_q tabOk ?_); conv => whnf) | (refine wq_Xn tabOk 22 1 rfl rfl rfl rfl rfl rfl rfl (by omega) (run_q tabOk ?_); conv => whnf) | (refine wq_C fn29 (fun w' _ => gLessB _ _ w' _ l1) rfl rfl rfl rfl rfl rfl rfl (run_q tabOk ?_); (conv => whnf)) | (refine wq_add rfl rfl rfl rfl rfl rfl (by omega) (by omega) (run_q tabOk ?_); conv => whnf) | (refine wq_sub rfl rfl rfl rfl rfl rfl (by omega) (by omega) (run_q tabOk ?_); conv => whnf) | (refine wq_cvA tabOk rfl rfl rfl (by simp only [inK]; omega) rfl rfl rfl (run_q tabOk ?_); conv => whnf) | (refine wq_cvB tabOk rfl rfl rfl rfl rfl rfl (run_q tabOk ?_); conv => whnf) | (refine wq_rem rfl rfl rfl rfl rfl rfl (by omega) (by omega) (fun r hr hr0 hr1 hr2 => run_q tabOk ?_); conv => whnf) | (refine wq_quo rfl rfl rfl rfl rfl rfl (by omega) (by omega) (by simp only [inK]; omega) (run_q tabOk ?_); conv => whnf) | (refine wq_mul rfl rfl rfl rfl rfl rfl (by omega) (by omega) (run_q tabOk ?_); conv => whnf) | (refine gs_dt (by first | assumption | omega) ?_; conv => whnf) | (refine gs_df (by first | assumption | omega) ?_; conv => whnf) | (refine gs_t (by assumption) ?_; conv => whnf) | (refine gs_f (by assumption) ?_; conv => whnf) | (refine gs_d (fun hg => ?_) (fun hg => ?_) <;> conv => whnf) | (refine gs_n (fun hg => ?_) (fun hg => ?_) <;> conv => whnf) | (refine gs_nb (fun hg => ?_) (fun hg => ?_) <;> conv => whnf) | (refine gs_b (fun hg => ?_) (fun hg => ?_) <;> conv => whnf)))
          intro w4 hB4
          conv => whnf
          (repeat' (first | (refine wl_add rfl rfl rfl rfl rfl rfl (by omega) (by omega) (run_l tabOk ?_); conv => whnf) | (refine wl_sub rfl rfl rfl rfl rfl rfl (by omega) (by omega) (run_l tabOk ?_); conv => whnf) | (refine wl_cvA tabOk rfl rfl rfl (by simp only [inK]; omega) rfl rfl rfl (run_l tabOk ?_); conv => whnf) | (refine wl_cvB tabOk rfl rfl rfl rfl rfl rfl (run_l tabOk ?_); conv => whnf) | (refine wl_rem rfl rfl rfl rfl rfl rfl (by omega) (by omega) (fun r hr hr0 hr1 hr2 => run_l tabOk ?_); conv => whnf) | (refine wl_quo rfl rfl rfl rfl rfl rfl (by omega) (by omega) (by simp only [inK]; omega) (run_l tabOk ?_); conv => whnf) | (refine wl_mul rfl rfl rfl rfl rfl rfl (by omega) (by omega) (run_l tabOk ?_); conv => whnf) | (refine gs_dt (by first | assumption | omega) ?_; conv => whnf) | (refine gs_df (by first | assumption | omega) ?_; conv => whnf) | (refine gs_t (by assumption) ?_; conv => whnf) | (refine gs_f (by assumption) ?_; conv => whnf) | (refine gs_d (fun hg => ?_) (fun hg => ?_) <;> conv => whnf) | (refine gs_n (fun hg => ?_) (fun hg => ?_) <;> conv => whnf) | (refine gs_nb (fun hg => ?_) (fun hg => ?_) <;> conv => whnf) | (refine gs_b (fun hg => ?_) (fun hg => ?_) <;> conv => whnf) | refine fin1 rfl rfl ?_))
          exact ⟨j + 1, ⟨rfl, rfl, rfl, trivial⟩, ⟨by omega, bup hBk hB4⟩, by omega⟩
      · (repeat' (first | (refine wl_add rfl rfl rfl rfl rfl rfl (by omega) (by omega) (run_l tabOk ?_); conv => whnf) | (refine wl_sub rfl rfl rfl rfl rfl rfl (by omega) (by omega) (run_l tabOk ?_); conv => whnf) | (refine wl_cvA tabOk rfl rfl rfl (by simp only [inK]; omega) rfl rfl rfl (run_l tabOk ?_); conv => whnf) | (refine wl_cvB tabOk rfl rfl rfl rfl rfl rfl (run_l tabOk ?_); conv => whnf) | (refine wl_rem rfl rfl rfl rfl rfl rfl (by omega) (by omega) (fun r hr hr0 hr1 hr2 => run_l tabOk ?_); conv => whnf) | (refine wl_quo rfl rfl rfl rfl rfl rfl (by omega) (by omega) (by simp only [inK]; omega) (run_l tabOk ?_); conv => whnf) | (refine wl_mul rfl rfl rfl rfl rfl rfl (by omega) (by omega) (run_l tabOk ?_); conv => whnf) | (refine gs_dt (by first | assumption | omega) ?_; conv => whnf) | (refine gs_df (by first | assumption | omega) ?_; conv => whnf) | (refine gs_t (by assumption) ?_; conv => whnf) | (refine gs_f (by assumption) ?_; conv => whnf) | (refine gs_d (fun hg => ?_) (fun hg => ?_) <;> conv => whnf) | (refine gs_n (fun hg => ?_) (fun hg => ?_) <;> conv => whnf) | (refine gs_nb (fun hg => ?_) (fun hg => ?_) <;> conv => whnf) | (refine gs_b (fun hg => ?_) (fun hg => ?_) <;> conv => whnf) | refine fin1 rfl rfl ?_))
        exact ⟨rfl, bup hB hBk⟩
end Go.Proofs.YtkjbkalakafnlaaDoor
