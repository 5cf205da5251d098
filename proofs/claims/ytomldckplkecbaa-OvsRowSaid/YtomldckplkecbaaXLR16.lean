/- A great ring is one knot; a long row is as many as it has nodes. -/
import Derived.Test.YtomldckplkecbaaY12
import Derived.Test.YtomldckplkecbaaY8
namespace Go.Proofs.Ytomldckplkecbaa
open Go.RowKit
set_option linter.unusedVariables false
set_option linter.unusedSimpArgs false
set_option maxRecDepth 100000
/-- A graph by each node's row. -/
def gF (k : Nat) (f : Nat → List Int) : List (List Int) := (List.range k).map f
theorem gF_len (k : Nat) (f : Nat → List Int) : (gF k f).length = k := by simp [gF]
theorem gF_at {k v : Nat} (f : Nat → List Int) (h : v < k) : (gF k f)[v]! = f v := by
  rw [getElem!_pos _ v (by rw [gF_len]; exact h)]
  simp [gF]
theorem gF_set (k v : Nat) (f : Nat → List Int) (x : List Int) : (gF k f).set v x = gF k (setF f v x) := range_setF f k v x
def ringF (v : Nat) : Nat → List Int := fun j => if 1 ≤ j ∧ j < v then [(j : Int) - 1] else []
theorem ringF_next {v : Nat} (h : 1 ≤ v) : setF (ringF v) v [(v : Int) - 1] = ringF (v + 1) := by
  funext j
  unfold setF ringF
  by_cases e : j = v
  · subst e
    rw [if_pos rfl, if_pos ⟨h, Nat.lt_succ_self _⟩]
  · rw [if_neg e]
    by_cases h1 : 1 ≤ j ∧ j < v
    · rw [if_pos h1, if_pos ⟨h1.1, by omega⟩]
    · rw [if_neg h1, if_neg fun h2 => h1 ⟨h2.1, by omega⟩]
theorem down {k : Nat} {f : Nat → List Int} (hf : ∀ j, 1 ≤ j → f j = ringF k j) : ∀ d u, u + d < k → Rg (gF k f) (u + d) u
  | 0, u, _ => .refl _
  | d + 1, u, h => by
    refine .step (w := u + d) ⟨0, by rw [gF_len]; omega, by rw [gF_len]; omega, ?_, ?_⟩ (down hf d u (by omega))
    · rw [gF_at f h, hf _ (by omega)]
      unfold ringF
      rw [if_pos ⟨by omega, h⟩]
      simp
    · rw [gF_at f h, hf _ (by omega)]
      unfold ringF
      rw [if_pos ⟨by omega, h⟩]
      show ((u + (d + 1) : Nat) : Int) - 1 = _
      omega
theorem row_rg {k v u : Nat} (hv : v < k) (hu : u < k) : Rg (gF k (ringF k)) v u ↔ u ≤ v := by
  constructor
  · intro h
    have := h.closed (P := fun x => x ≤ v) (fun a b ha ⟨j, h1, h2, h3, h4⟩ => by
      rw [gF_len] at h1 h2
      rw [gF_at _ h1] at h3 h4
      unfold ringF at h3 h4
      by_cases hc : 1 ≤ a ∧ a < k
      · rw [if_pos hc] at h3 h4
        have : j = 0 := by have : j < 1 := h3; omega
        subst this
        have : (a : Int) - 1 = (b : Int) := h4
        show b ≤ v
        have ha : a ≤ v := ha
        omega
      · rw [if_neg hc] at h3
        exact absurd h3 (Nat.not_lt_zero j)) (Nat.le_refl v)
    exact this
  · intro h
    obtain ⟨d, rfl⟩ : ∃ d, v = u + d := ⟨v - u, by omega⟩
    exact down (fun _ _ => rfl) d u hv
theorem ring_rg {k v u : Nat} (hv : v < k) (hu : u < k) : Rg (gF k (setF (ringF k) 0 [(k : Int) - 1])) v u := by
  have hf : ∀ j, 1 ≤ j → setF (ringF k) 0 [(k : Int) - 1] j = ringF k j := fun j hj => setF_ne _ _ (by omega)
  have h1 : Rg (gF k (setF (ringF k) 0 [(k : Int) - 1])) v 0 := by
    have := down hf v 0 (by omega)
    rwa [Nat.zero_add] at this
  have h2 : Rg (gF k (setF (ringF k) 0 [(k : Int) - 1])) (k - 1) u := by
    have := down hf (k - 1 - u) u (by omega)
    rwa [show u + (k - 1 - u) = k - 1 by omega] at this
  refine h1.trans (.step ⟨0, by rw [gF_len]; omega, by rw [gF_len]; omega, ?_, ?_⟩ h2)
  · rw [gF_at _ (by omega), setF_at]; simp
  · rw [gF_at _ (by omega), setF_at]
    show (k : Int) - 1 = ((k - 1 : Nat) : Int)
    omega
/-- A row of one number. -/
theorem gints_one {base : Nat} {w w1 : World} {g : Nat} {x : Int} (hn : New w w1 g [.int .i64 x] 3) (hb : base ≤ w.heap.size) (hx : -9223372036854775808 ≤ x ∧ x ≤ 9223372036854775807) : GInts base w1 (.slice (some ⟨g, 0, none⟩) 1 1) ([] ++ [x]) := by
  refine ⟨⟨[.int .i64 x], ⟨rfl, .inr ⟨g, 1, #[.int .i64 x], rfl, ?_, hn.blk, Nat.le_refl _, by decide, rfl, rfl⟩⟩, fun w' _ => Elems.one (d := dI .i64) rfl (ints_one (w := w') (flat := []) (xs := []) hx)⟩, by simp, by simp⟩
  have := hn.at_
  omega
theorem GMat.setOne {base g gn : Nat} {w w1 w2 : World} {vs : List Value} {k v : Nat} {f : Nat → List Int} {bl : List Nat} {x : Int} (h : GMat base g w vs (gF k f) bl) (hv : v < k) (h0 : f v = []) (h0v : vs[v]! = .slice none 0 0) (hn : New w w1 gn [.int .i64 x] 3) (hb : base ≤ w.heap.size) (hx : -9223372036854775808 ≤ x ∧ x ≤ 9223372036854775807)
    (hp : Put w1 w2 g (vs.set v (.slice (some ⟨gn, 0, none⟩) 1 1)) 24) : GMat base g w2 (vs.set v (.slice (some ⟨gn, 0, none⟩) 1 1)) (gF k (setF f v [x])) (bl ++ [gn]) := by
  have hl : v < (gF k f).length := by rw [gF_len]; exact hv
  have h1 := h.app (i := v) hl (v' := .slice (some ⟨gn, 0, none⟩) 1 1) (x := x) (by rw [gF_at f hv, h0]; exact gints_one hn hb hx) (by rw [h0v]; exact grown_of hn.below) (.inr ⟨gn, rfl, by have := hn.at_; omega⟩) hp
  rw [gF_at f hv, h0, gF_set] at h1
  exact h1
set_option maxHeartbeats 8000000 in
theorem lawKnotRing (n : Int) (ring : Bool) (w : World) (hn : 0 ≤ n ∧ n ≤ 65535) :
    Calls Try.prog 4 #[.int .u16 n, .bool ring] w fun e w' => e = .returned (.bool true) ∧ Below w.heap.size w w' := by
  refine enterR (args := [.int .u16 n, .bool ring]) tabOk Try.func4 rfl Try.ntmps4 rfl ?_; conv => whnf
  refine wl_C fn12 (awake16 w) rfl rfl rfl rfl rfl rfl rfl ?_
  rintro _ w1 ⟨rfl, hB1⟩
  refine ⟨_, rfl, run_l tabOk ?_⟩
  conv => whnf
  (repeat' (first | (refine wl_rem rfl rfl rfl rfl rfl rfl (by omega) (by omega) (fun r hr hr0 hr1 hr2 => ?_); obtain ⟨m, rfl⟩ := Int.eq_ofNat_of_zero_le hr0; refine run_l tabOk ?_; (conv => whnf)) | (refine wl_add rfl rfl rfl rfl rfl rfl (by omega) (by omega) (run_l tabOk ?_); conv => whnf) | (refine wl_sub rfl rfl rfl rfl rfl rfl (by omega) (by omega) (run_l tabOk ?_); conv => whnf) | (refine wl_cvA tabOk rfl rfl rfl (by simp only [inK]; omega) rfl rfl rfl (run_l tabOk ?_); conv => whnf) | (refine wl_cvB tabOk rfl rfl rfl rfl rfl rfl (run_l tabOk ?_); conv => whnf) | (refine wl_rem rfl rfl rfl rfl rfl rfl (by omega) (by omega) (fun r hr hr0 hr1 hr2 => run_l tabOk ?_); conv => whnf) | (refine wl_quo rfl rfl rfl rfl rfl rfl (by omega) (by omega) (by simp only [inK]; omega) (run_l tabOk ?_); conv => whnf) | (refine wl_mul rfl rfl rfl rfl rfl rfl (by omega) (by omega) (run_l tabOk ?_); conv => whnf) | (refine gs_dt (by first | assumption | omega) ?_; conv => whnf) | (refine gs_df (by first | assumption | omega) ?_; conv => whnf) | (refine gs_t (by assumption) ?_; conv => whnf) | (refine gs_f (by assumption) ?_; conv => whnf) | (refine gs_d (fun hg => ?_) (fun hg => ?_) <;> conv => whnf) | (refine gs_n (fun hg => ?_) (fun hg => ?_) <;> conv => whnf) | (refine gs_nb (fun hg => ?_) (fun hg => ?_) <;> conv => whnf) | (refine gs_b (fun hg => ?_) (fun hg => ?_) <;> conv => whnf) | refine fin1 rfl rfl ?_))
  obtain ⟨k, hk⟩ : ∃ k, k = m + 1 := ⟨_, rfl⟩
  have ek : (1 : Int) + (m : Int) = (k : Int) := by omega
  rw [ek]
  have hk3 : k ≤ 3000 := by omega
  have hk1 : 1 ≤ k := by omega
  clear ek hk hr hr0 hr1 hr2
  refine wl_mk (m := k) tabOk 24 1 24 rfl rfl rfl rfl rfl rfl rfl rfl rfl (by omega) (by omega) ?_
  intro gm w2 hn2
  refine run_l tabOk ?_
  conv => whnf
  (repeat' (first | (refine wl_add rfl rfl rfl rfl rfl rfl (by omega) (by omega) (run_l tabOk ?_); conv => whnf) | (refine wl_sub rfl rfl rfl rfl rfl rfl (by omega) (by omega) (run_l tabOk ?_); conv => whnf) | (refine wl_cvA tabOk rfl rfl rfl (by simp only [inK]; omega) rfl rfl rfl (run_l tabOk ?_); conv => whnf) | (refine wl_cvB tabOk rfl rfl rfl rfl rfl rfl (run_l tabOk ?_); conv => whnf) | (refine wl_rem rfl rfl rfl rfl rfl rfl (by omega) (by omega) (fun r hr hr0 hr1 hr2 => run_l tabOk ?_); conv => whnf) | (refine wl_quo rfl rfl rfl rfl rfl rfl (by omega) (by omega) (by simp only [inK]; omega) (run_l tabOk ?_); conv => whnf) | (refine wl_mul rfl rfl rfl rfl rfl rfl (by omega) (by omega) (run_l tabOk ?_); conv => whnf) | (refine gs_dt (by first | assumption | omega) ?_; conv => whnf) | (refine gs_df (by first | assumption | omega) ?_; conv => whnf) | (refine gs_t (by assumption) ?_; conv => whnf) | (refine gs_f (by assumption) ?_; conv => whnf) | (refine gs_d (fun hg => ?_) (fun hg => ?_) <;> conv => whnf) | (refine gs_n (fun hg => ?_) (fun hg => ?_) <;> conv => whnf) | (refine gs_nb (fun hg => ?_) (fun hg => ?_) <;> conv => whnf) | (refine gs_b (fun hg => ?_) (fun hg => ?_) <;> conv => whnf) | refine fin1 rfl rfl ?_))
  have hB2 := hn2.up hB1
  have hgm : w.heap.size ≤ gm := by have := hn2.at_; have := hB1.size; omega
  have hM2 : GMat w.heap.size gm w2 (List.replicate k (.slice none 0 0)) (gF k (ringF 1)) [] := by
    have h1 := GMat.init (base := w.heap.size) (n := k) hn2.blk hgm
    have e : List.replicate k ([] : List Int) = gF k (ringF 1) := by
      apply List.ext_getElem (by simp [gF])
      intro i h1 h2
      have : ¬ (1 ≤ i ∧ i < 1) := by omega
      have h0 : ringF 1 i = [] := by unfold ringF; rw [if_neg this]
      simp [gF, h0]
    rw [← e]
    exact h1
  refine lp_loop tabOk (X := Nat) (fun v => [(1, .bool ring), (5, .int .i64 (k : Int)), (6, .slice (some ⟨gm, 0, none⟩) k k), (7, .int .i64 (v : Int))]) (fun v wr => (1 ≤ v ∧ v ≤ k) ∧ Below w.heap.size w wr ∧ ∃ vs bl, GMat w.heap.size gm wr vs (gF k (ringF v)) bl ∧ ∀ j, j < k → (j = 0 ∨ v ≤ j) → vs[j]! = .slice none 0 0) (fun v => k - v) 1 ⟨rfl, rfl, rfl, rfl, trivial⟩ ⟨⟨by omega, by omega⟩, hB2, _, _, hM2, fun j hj _ => by rw [getElem!_pos _ j (by simpa using hj)]; simp⟩ ?_
  clear hM2 hB2 hB1 hn2
  rintro v G wr ⟨⟨hv1, hvk⟩, hB, vs, bl, hM, hz⟩
  conv => whnf
  have hgl := blk_lt hM.blk
  have hvl := hM.len
  rw [gF_len] at hvl
  by_cases hlt : v < k
  · (repeat' (first | (refine wl_add rfl rfl rfl rfl rfl rfl (by omega) (by omega) (run_l tabOk ?_); conv => whnf) | (refine wl_sub rfl rfl rfl rfl rfl rfl (by omega) (by omega) (run_l tabOk ?_); conv => whnf) | (refine wl_cvA tabOk rfl rfl rfl (by simp only [inK]; omega) rfl rfl rfl (run_l tabOk ?_); conv => whnf) | (refine wl_cvB tabOk rfl rfl rfl rfl rfl rfl (run_l tabOk ?_); conv => whnf) | (refine wl_rem rfl rfl rfl rfl rfl rfl (by omega) (by omega) (fun r hr hr0 hr1 hr2 => run_l tabOk ?_); conv => whnf) | (refine wl_quo rfl rfl rfl rfl rfl rfl (by omega) (by omega) (by simp only [inK]; omega) (run_l tabOk ?_); conv => whnf) | (refine wl_mul rfl rfl rfl rfl rfl rfl (by omega) (by omega) (run_l tabOk ?_); conv => whnf) | (refine gs_dt (by first | assumption | omega) ?_; conv => whnf) | (refine gs_df (by first | assumption | omega) ?_; conv => whnf) | (refine gs_t (by assumption) ?_; conv => whnf) | (refine gs_f (by assumption) ?_; conv => whnf) | (refine gs_d (fun hg => ?_) (fun hg => ?_) <;> conv => whnf) | (refine gs_n (fun hg => ?_) (fun hg => ?_) <;> conv => whnf) | (refine gs_nb (fun hg => ?_) (fun hg => ?_) <;> conv => whnf) | (refine gs_b (fun hg => ?_) (fun hg => ?_) <;> conv => whnf) | refine fin1 rfl rfl ?_))
    refine wl_bs tabOk 3 1 rfl rfl rfl rfl rfl rfl rfl rfl rfl rfl ?_
    intro g8 w8 hn8
    refine run_l tabOk ?_
    conv => whnf
    (repeat' (first | (refine wl_Xn tabOk 24 1 rfl rfl rfl rfl rfl rfl rfl (by omega) (run_l tabOk ?_); conv => whnf) | (refine wl_add rfl rfl rfl rfl rfl rfl (by omega) (by omega) (run_l tabOk ?_); conv => whnf) | (refine wl_sub rfl rfl rfl rfl rfl rfl (by omega) (by omega) (run_l tabOk ?_); conv => whnf) | (refine wl_cvA tabOk rfl rfl rfl (by simp only [inK]; omega) rfl rfl rfl (run_l tabOk ?_); conv => whnf) | (refine wl_cvB tabOk rfl rfl rfl rfl rfl rfl (run_l tabOk ?_); conv => whnf) | (refine wl_rem rfl rfl rfl rfl rfl rfl (by omega) (by omega) (fun r hr hr0 hr1 hr2 => run_l tabOk ?_); conv => whnf) | (refine wl_quo rfl rfl rfl rfl rfl rfl (by omega) (by omega) (by simp only [inK]; omega) (run_l tabOk ?_); conv => whnf) | (refine wl_mul rfl rfl rfl rfl rfl rfl (by omega) (by omega) (run_l tabOk ?_); conv => whnf) | (refine gs_dt (by first | assumption | omega) ?_; conv => whnf) | (refine gs_df (by first | assumption | omega) ?_; conv => whnf) | (refine gs_t (by assumption) ?_; conv => whnf) | (refine gs_f (by assumption) ?_; conv => whnf) | (refine gs_d (fun hg => ?_) (fun hg => ?_) <;> conv => whnf) | (refine gs_n (fun hg => ?_) (fun hg => ?_) <;> conv => whnf) | (refine gs_nb (fun hg => ?_) (fun hg => ?_) <;> conv => whnf) | (refine gs_b (fun hg => ?_) (fun hg => ?_) <;> conv => whnf) | refine fin1 rfl rfl ?_))
    refine wl_Se (j := v * 1) (v := .slice (some ⟨g8, 0, none⟩) 1 1) tabOk (hn8.old hM.blk) rfl rfl rfl rfl rfl rfl (by omega) rfl rfl ?_
    intro w9 hp9
    refine run_l tabOk ?_
    conv => whnf
    rw [Nat.mul_one] at hp9
    have hM9 := hM.setOne (v := v) hlt (by unfold ringF; rw [if_neg (by omega)]) (hz v hlt (.inr (Nat.le_refl v))) hn8 hB.size (by omega) hp9
    rw [ringF_next hv1] at hM9
    (repeat' (first | (refine wl_add rfl rfl rfl rfl rfl rfl (by omega) (by omega) (run_l tabOk ?_); conv => whnf) | (refine wl_sub rfl rfl rfl rfl rfl rfl (by omega) (by omega) (run_l tabOk ?_); conv => whnf) | (refine wl_cvA tabOk rfl rfl rfl (by simp only [inK]; omega) rfl rfl rfl (run_l tabOk ?_); conv => whnf) | (refine wl_cvB tabOk rfl rfl rfl rfl rfl rfl (run_l tabOk ?_); conv => whnf) | (refine wl_rem rfl rfl rfl rfl rfl rfl (by omega) (by omega) (fun r hr hr0 hr1 hr2 => run_l tabOk ?_); conv => whnf) | (refine wl_quo rfl rfl rfl rfl rfl rfl (by omega) (by omega) (by simp only [inK]; omega) (run_l tabOk ?_); conv => whnf) | (refine wl_mul rfl rfl rfl rfl rfl rfl (by omega) (by omega) (run_l tabOk ?_); conv => whnf) | (refine gs_dt (by first | assumption | omega) ?_; conv => whnf) | (refine gs_df (by first | assumption | omega) ?_; conv => whnf) | (refine gs_t (by assumption) ?_; conv => whnf) | (refine gs_f (by assumption) ?_; conv => whnf) | (refine gs_d (fun hg => ?_) (fun hg => ?_) <;> conv => whnf) | (refine gs_n (fun hg => ?_) (fun hg => ?_) <;> conv => whnf) | (refine gs_nb (fun hg => ?_) (fun hg => ?_) <;> conv => whnf) | (refine gs_b (fun hg => ?_) (fun hg => ?_) <;> conv => whnf) | refine fin1 rfl rfl ?_))
    refine ⟨v + 1, ⟨rfl, rfl, rfl, rfl, trivial⟩, ⟨⟨by omega, by omega⟩, hp9.below (hn8.up hB) hgm (by have := hn8.size; have := hB.size; omega), _, _, hM9, fun j hj hjv => ?_⟩, by omega⟩
    rw [get_set _ _ _ _ (by omega), if_neg (by omega)]
    exact hz j hj (by omega)
  · obtain rfl : v = k := by omega
    cases ring with
    | true =>
      (repeat' (first | (refine wl_add rfl rfl rfl rfl rfl rfl (by omega) (by omega) (run_l tabOk ?_); conv => whnf) | (refine wl_sub rfl rfl rfl rfl rfl rfl (by omega) (by omega) (run_l tabOk ?_); conv => whnf) | (refine wl_cvA tabOk rfl rfl rfl (by simp only [inK]; omega) rfl rfl rfl (run_l tabOk ?_); conv => whnf) | (refine wl_cvB tabOk rfl rfl rfl rfl rfl rfl (run_l tabOk ?_); conv => whnf) | (refine wl_rem rfl rfl rfl rfl rfl rfl (by omega) (by omega) (fun r hr hr0 hr1 hr2 => run_l tabOk ?_); conv => whnf) | (refine wl_quo rfl rfl rfl rfl rfl rfl (by omega) (by omega) (by simp only [inK]; omega) (run_l tabOk ?_); conv => whnf) | (refine wl_mul rfl rfl rfl rfl rfl rfl (by omega) (by omega) (run_l tabOk ?_); conv => whnf) | (refine gs_dt (by first | assumption | omega) ?_; conv => whnf) | (refine gs_df (by first | assumption | omega) ?_; conv => whnf) | (refine gs_t (by assumption) ?_; conv => whnf) | (refine gs_f (by assumption) ?_; conv => whnf) | (refine gs_d (fun hg => ?_) (fun hg => ?_) <;> conv => whnf) | (refine gs_n (fun hg => ?_) (fun hg => ?_) <;> conv => whnf) | (refine gs_nb (fun hg => ?_) (fun hg => ?_) <;> conv => whnf) | (refine gs_b (fun hg => ?_) (fun hg => ?_) <;> conv => whnf) | refine fin1 rfl rfl ?_))
      refine wl_bs tabOk 3 1 rfl rfl rfl rfl rfl rfl rfl rfl rfl rfl ?_
      intro g8 w8 hn8
      refine run_l tabOk ?_
      conv => whnf
      (repeat' (first | (refine wl_X tabOk 24 1 rfl rfl rfl rfl rfl rfl rfl (by omega) (by omega) (run_l tabOk ?_); conv => whnf) | (refine wl_add rfl rfl rfl rfl rfl rfl (by omega) (by omega) (run_l tabOk ?_); conv => whnf) | (refine wl_sub rfl rfl rfl rfl rfl rfl (by omega) (by omega) (run_l tabOk ?_); conv => whnf) | (refine wl_cvA tabOk rfl rfl rfl (by simp only [inK]; omega) rfl rfl rfl (run_l tabOk ?_); conv => whnf) | (refine wl_cvB tabOk rfl rfl rfl rfl rfl rfl (run_l tabOk ?_); conv => whnf) | (refine wl_rem rfl rfl rfl rfl rfl rfl (by omega) (by omega) (fun r hr hr0 hr1 hr2 => run_l tabOk ?_); conv => whnf) | (refine wl_quo rfl rfl rfl rfl rfl rfl (by omega) (by omega) (by simp only [inK]; omega) (run_l tabOk ?_); conv => whnf) | (refine wl_mul rfl rfl rfl rfl rfl rfl (by omega) (by omega) (run_l tabOk ?_); conv => whnf) | (refine gs_dt (by first | assumption | omega) ?_; conv => whnf) | (refine gs_df (by first | assumption | omega) ?_; conv => whnf) | (refine gs_t (by assumption) ?_; conv => whnf) | (refine gs_f (by assumption) ?_; conv => whnf) | (refine gs_d (fun hg => ?_) (fun hg => ?_) <;> conv => whnf) | (refine gs_n (fun hg => ?_) (fun hg => ?_) <;> conv => whnf) | (refine gs_nb (fun hg => ?_) (fun hg => ?_) <;> conv => whnf) | (refine gs_b (fun hg => ?_) (fun hg => ?_) <;> conv => whnf) | refine fin1 rfl rfl ?_))
      refine wl_Se (j := 0) (v := .slice (some ⟨g8, 0, none⟩) 1 1) tabOk (hn8.old hM.blk) rfl rfl rfl rfl rfl rfl (by omega) rfl rfl ?_
      intro w9 hp9
      refine run_l tabOk ?_
      conv => whnf
      have hM9 := hM.setOne (v := 0) (by omega) (by unfold ringF; rw [if_neg (by omega)]) (hz 0 (by omega) (.inl rfl)) hn8 hB.size (by omega) hp9
      have hB9 : Below w.heap.size w w9 := hp9.below (hn8.up hB) hgm (by have := hn8.size; have := hB.size; omega)
      have hl9 := gF_len v (setF (ringF v) 0 [(v : Int) - 1])
      have hfc := kFind (gF v (setF (ringF v) 0 [(v : Int) - 1])) (some ⟨gm, 0, none⟩) v w9 (hM9.rows (by omega)) (by omega)
      rw [hl9] at hfc
      refine wl_C fn13 hfc rfl rfl rfl rfl rfl rfl rfl ?_
      rintro _ w5 ⟨⟨kn, of, Ak, ck, go, rfl, hK, hrk, hcn, hof⟩, hB5⟩
      refine ⟨_, rfl, run_l tabOk ?_⟩
      obtain ⟨k1, k2, k3⟩ := hK.one (by omega) (fun a b ha hb => ring_rg (by omega) (by omega))
      rw [hl9] at k2 k3 hof
      rw [k1, hl9]
      conv => whnf
      obtain ⟨x, ad, B, cc, ⟨hx⟩, rfl, hrow, hxc, ⟨hRI⟩⟩ := rowsE hrk 0 (by rw [knI_len]; omega)
      rw [knI_at (by omega)] at hx
      have hxl : x.length = v := by rw [← hx, List.length_map]; exact k2
      obtain ⟨z, ad3, ⟨hz3⟩, e3, hc4, _, _⟩ := intsE hof (v - 1) (by rw [ofI_len]; omega)
      rw [ofI_at _ (by omega), k3 _ (by omega)] at hz3
      have hz3 : (0 : Int) = z := hz3
      subst hz3
      injection e3 with e3
      subst e3
      rw [hxl] at hrow
      have hrow' : w5.cell? (ad.add ((0 : Int).toNat * 1)) = some (.slice B v cc) := hrow
      have ev : ((v : Int) - 1).toNat = v - 1 := by omega
      rw [← ev] at hc4
      (repeat' (first | (refine wl_L tabOk rfl rfl rfl rfl rfl rfl hrow' (run_l tabOk ?_); conv => whnf) | (refine wl_L tabOk rfl rfl rfl rfl rfl rfl hc4 (run_l tabOk ?_); conv => whnf) | (refine wl_X tabOk 24 1 rfl rfl rfl rfl rfl rfl rfl (by omega) (by omega) (run_l tabOk ?_); conv => whnf) | (refine wl_X tabOk 3 1 rfl rfl rfl rfl rfl rfl rfl (by omega) (by omega) (run_l tabOk ?_); conv => whnf) | (refine wl_add rfl rfl rfl rfl rfl rfl (by omega) (by omega) (run_l tabOk ?_); conv => whnf) | (refine wl_sub rfl rfl rfl rfl rfl rfl (by omega) (by omega) (run_l tabOk ?_); conv => whnf) | (refine wl_cvA tabOk rfl rfl rfl (by simp only [inK]; omega) rfl rfl rfl (run_l tabOk ?_); conv => whnf) | (refine wl_cvB tabOk rfl rfl rfl rfl rfl rfl (run_l tabOk ?_); conv => whnf) | (refine wl_rem rfl rfl rfl rfl rfl rfl (by omega) (by omega) (fun r hr hr0 hr1 hr2 => run_l tabOk ?_); conv => whnf) | (refine wl_quo rfl rfl rfl rfl rfl rfl (by omega) (by omega) (by simp only [inK]; omega) (run_l tabOk ?_); conv => whnf) | (refine wl_mul rfl rfl rfl rfl rfl rfl (by omega) (by omega) (run_l tabOk ?_); conv => whnf) | (refine gs_dt (by first | assumption | omega) ?_; conv => whnf) | (refine gs_df (by first | assumption | omega) ?_; conv => whnf) | (refine gs_t (by assumption) ?_; conv => whnf) | (refine gs_f (by assumption) ?_; conv => whnf) | (refine gs_d (fun hg => ?_) (fun hg => ?_) <;> conv => whnf) | (refine gs_n (fun hg => ?_) (fun hg => ?_) <;> conv => whnf) | (refine gs_nb (fun hg => ?_) (fun hg => ?_) <;> conv => whnf) | (refine gs_b (fun hg => ?_) (fun hg => ?_) <;> conv => whnf) | refine fin1 rfl rfl ?_))
      exact ⟨rfl, bup hB9 hB5⟩
    | false =>
      (repeat' (first | (refine wl_add rfl rfl rfl rfl rfl rfl (by omega) (by omega) (run_l tabOk ?_); conv => whnf) | (refine wl_sub rfl rfl rfl rfl rfl rfl (by omega) (by omega) (run_l tabOk ?_); conv => whnf) | (refine wl_cvA tabOk rfl rfl rfl (by simp only [inK]; omega) rfl rfl rfl (run_l tabOk ?_); conv => whnf) | (refine wl_cvB tabOk rfl rfl rfl rfl rfl rfl (run_l tabOk ?_); conv => whnf) | (refine wl_rem rfl rfl rfl rfl rfl rfl (by omega) (by omega) (fun r hr hr0 hr1 hr2 => run_l tabOk ?_); conv => whnf) | (refine wl_quo rfl rfl rfl rfl rfl rfl (by omega) (by omega) (by simp only [inK]; omega) (run_l tabOk ?_); conv => whnf) | (refine wl_mul rfl rfl rfl rfl rfl rfl (by omega) (by omega) (run_l tabOk ?_); conv => whnf) | (refine gs_dt (by first | assumption | omega) ?_; conv => whnf) | (refine gs_df (by first | assumption | omega) ?_; conv => whnf) | (refine gs_t (by assumption) ?_; conv => whnf) | (refine gs_f (by assumption) ?_; conv => whnf) | (refine gs_d (fun hg => ?_) (fun hg => ?_) <;> conv => whnf) | (refine gs_n (fun hg => ?_) (fun hg => ?_) <;> conv => whnf) | (refine gs_nb (fun hg => ?_) (fun hg => ?_) <;> conv => whnf) | (refine gs_b (fun hg => ?_) (fun hg => ?_) <;> conv => whnf) | refine fin1 rfl rfl ?_))
      have hl9 := gF_len v (ringF v)
      have hfc := kFind (gF v (ringF v)) (some ⟨gm, 0, none⟩) v wr (hM.rows (by omega)) (by omega)
      rw [hl9] at hfc
      refine wl_C fn13 hfc rfl rfl rfl rfl rfl rfl rfl ?_
      rintro _ w5 ⟨⟨kn, of, Ak, ck, go, rfl, hK, hrk, hcn, hof⟩, hB5⟩
      refine ⟨_, rfl, run_l tabOk ?_⟩
      obtain ⟨k1, k2⟩ := hK.row (fun a b ha hb => row_rg (by omega) (by omega))
      rw [hl9] at k1 k2 hof
      rw [k1, hl9]
      conv => whnf
      (repeat' (first | (refine wl_add rfl rfl rfl rfl rfl rfl (by omega) (by omega) (run_l tabOk ?_); conv => whnf) | (refine wl_sub rfl rfl rfl rfl rfl rfl (by omega) (by omega) (run_l tabOk ?_); conv => whnf) | (refine wl_cvA tabOk rfl rfl rfl (by simp only [inK]; omega) rfl rfl rfl (run_l tabOk ?_); conv => whnf) | (refine wl_cvB tabOk rfl rfl rfl rfl rfl rfl (run_l tabOk ?_); conv => whnf) | (refine wl_rem rfl rfl rfl rfl rfl rfl (by omega) (by omega) (fun r hr hr0 hr1 hr2 => run_l tabOk ?_); conv => whnf) | (refine wl_quo rfl rfl rfl rfl rfl rfl (by omega) (by omega) (by simp only [inK]; omega) (run_l tabOk ?_); conv => whnf) | (refine wl_mul rfl rfl rfl rfl rfl rfl (by omega) (by omega) (run_l tabOk ?_); conv => whnf) | (refine gs_dt (by first | assumption | omega) ?_; conv => whnf) | (refine gs_df (by first | assumption | omega) ?_; conv => whnf) | (refine gs_t (by assumption) ?_; conv => whnf) | (refine gs_f (by assumption) ?_; conv => whnf) | (refine gs_d (fun hg => ?_) (fun hg => ?_) <;> conv => whnf) | (refine gs_n (fun hg => ?_) (fun hg => ?_) <;> conv => whnf) | (refine gs_nb (fun hg => ?_) (fun hg => ?_) <;> conv => whnf) | (refine gs_b (fun hg => ?_) (fun hg => ?_) <;> conv => whnf) | refine fin1 rfl rfl ?_))
      refine lp_loop tabOk (X := Nat) (fun i => [(5, .int .i64 (v : Int)), (8, .slice Ak v ck), (9, .slice (some ⟨go, 0, none⟩) v v), (10, .int .i64 (i : Int))]) (fun i wr => i ≤ v ∧ wr = w5) (fun i => v - i) 0 ⟨rfl, rfl, rfl, rfl, trivial⟩ ⟨by omega, rfl⟩ ?_
      rintro i G3 wi ⟨hi, rfl⟩
      conv => whnf
      by_cases hil : i < v
      · obtain ⟨z, ad3, ⟨hz3⟩, e3, hc4, _, _⟩ := intsE hof i (by rw [ofI_len]; omega)
        rw [ofI_at _ (by omega), (k2 i hil).1] at hz3
        subst hz3
        injection e3 with e3
        subst e3
        obtain ⟨x, ad, B, cc, ⟨hx⟩, rfl, hrow, hxc, ⟨hRI⟩⟩ := rowsE hrk i (by rw [knI_len]; omega)
        rw [knI_at (by omega)] at hx
        have hxl : x.length = 1 := by rw [← hx, List.length_map]; exact (k2 i hil).2
        rw [hxl] at hrow
        (repeat' (first | (refine wl_L tabOk rfl rfl rfl rfl rfl rfl hrow (run_l tabOk ?_); conv => whnf) | (refine wl_L tabOk rfl rfl rfl rfl rfl rfl hc4 (run_l tabOk ?_); conv => whnf) | (refine wl_Xn tabOk 24 1 rfl rfl rfl rfl rfl rfl rfl (by omega) (run_l tabOk ?_); conv => whnf) | (refine wl_Xn tabOk 3 1 rfl rfl rfl rfl rfl rfl rfl (by omega) (run_l tabOk ?_); conv => whnf) | (refine wl_add rfl rfl rfl rfl rfl rfl (by omega) (by omega) (run_l tabOk ?_); conv => whnf) | (refine wl_sub rfl rfl rfl rfl rfl rfl (by omega) (by omega) (run_l tabOk ?_); conv => whnf) | (refine wl_cvA tabOk rfl rfl rfl (by simp only [inK]; omega) rfl rfl rfl (run_l tabOk ?_); conv => whnf) | (refine wl_cvB tabOk rfl rfl rfl rfl rfl rfl (run_l tabOk ?_); conv => whnf) | (refine wl_rem rfl rfl rfl rfl rfl rfl (by omega) (by omega) (fun r hr hr0 hr1 hr2 => run_l tabOk ?_); conv => whnf) | (refine wl_quo rfl rfl rfl rfl rfl rfl (by omega) (by omega) (by simp only [inK]; omega) (run_l tabOk ?_); conv => whnf) | (refine wl_mul rfl rfl rfl rfl rfl rfl (by omega) (by omega) (run_l tabOk ?_); conv => whnf) | (refine gs_dt (by first | assumption | omega) ?_; conv => whnf) | (refine gs_df (by first | assumption | omega) ?_; conv => whnf) | (refine gs_t (by assumption) ?_; conv => whnf) | (refine gs_f (by assumption) ?_; conv => whnf) | (refine gs_d (fun hg => ?_) (fun hg => ?_) <;> conv => whnf) | (refine gs_n (fun hg => ?_) (fun hg => ?_) <;> conv => whnf) | (refine gs_nb (fun hg => ?_) (fun hg => ?_) <;> conv => whnf) | (refine gs_b (fun hg => ?_) (fun hg => ?_) <;> conv => whnf) | refine fin1 rfl rfl ?_))
        exact ⟨i + 1, ⟨rfl, rfl, rfl, rfl, trivial⟩, ⟨hil, rfl⟩, by omega⟩
      · (repeat' (first | (refine wl_add rfl rfl rfl rfl rfl rfl (by omega) (by omega) (run_l tabOk ?_); conv => whnf) | (refine wl_sub rfl rfl rfl rfl rfl rfl (by omega) (by omega) (run_l tabOk ?_); conv => whnf) | (refine wl_cvA tabOk rfl rfl rfl (by simp only [inK]; omega) rfl rfl rfl (run_l tabOk ?_); conv => whnf) | (refine wl_cvB tabOk rfl rfl rfl rfl rfl rfl (run_l tabOk ?_); conv => whnf) | (refine wl_rem rfl rfl rfl rfl rfl rfl (by omega) (by omega) (fun r hr hr0 hr1 hr2 => run_l tabOk ?_); conv => whnf) | (refine wl_quo rfl rfl rfl rfl rfl rfl (by omega) (by omega) (by simp only [inK]; omega) (run_l tabOk ?_); conv => whnf) | (refine wl_mul rfl rfl rfl rfl rfl rfl (by omega) (by omega) (run_l tabOk ?_); conv => whnf) | (refine gs_dt (by first | assumption | omega) ?_; conv => whnf) | (refine gs_df (by first | assumption | omega) ?_; conv => whnf) | (refine gs_t (by assumption) ?_; conv => whnf) | (refine gs_f (by assumption) ?_; conv => whnf) | (refine gs_d (fun hg => ?_) (fun hg => ?_) <;> conv => whnf) | (refine gs_n (fun hg => ?_) (fun hg => ?_) <;> conv => whnf) | (refine gs_nb (fun hg => ?_) (fun hg => ?_) <;> conv => whnf) | (refine gs_b (fun hg => ?_) (fun hg => ?_) <;> conv => whnf) | refine fin1 rfl rfl ?_))
        exact ⟨rfl, bup hB hB5⟩
end Go.Proofs.Ytomldckplkecbaa
