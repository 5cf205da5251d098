/- The example of the document's chapter on knots. -/
import Derived.Test.YtomldckplkecbaaZ11
namespace Go.Proofs.Ytomldckplkecbaa
open Go.RowKit
set_option linter.unusedVariables false
set_option linter.unusedSimpArgs false
set_option maxRecDepth 100000
theorem knI_len (kn : List (List Nat)) : (knI kn).length = kn.length := by simp [knI]
theorem knI_at {kn : List (List Nat)} {k : Nat} (h : k < kn.length) : (knI kn)[k]! = (kn[k]!).map fun (x : Nat) => (x : Int) := by
  rw [getElem!_pos _ k (by rw [knI_len]; exact h), getElem!_pos kn k h]
  simp [knI]
theorem castI_at {l : List Nat} {i : Nat} (h : i < l.length) : (l.map fun (x : Nat) => (x : Int))[i]! = (l[i]! : Int) := by
  rw [getElem!_pos _ i (by simpa using h), getElem!_pos l i h]
  simp
/-- Two strictly rising rows of the same numbers are one. -/
theorem rise_eq : ∀ {a b : List Nat}, a.Pairwise (· < ·) → b.Pairwise (· < ·) → (∀ x, x ∈ a ↔ x ∈ b) → a = b
  | [], [], _, _, _ => rfl
  | [], y :: b, _, _, h => by have := (h y).2 (by simp); cases this
  | x :: a, [], _, _, h => by have := (h x).1 (by simp); cases this
  | x :: a, y :: b, ha, hb, h => by
    rw [List.pairwise_cons] at ha hb
    have hxy : x = y := by
      rcases List.mem_cons.1 ((h x).1 (by simp)) with e | h1
      · exact e
      · rcases List.mem_cons.1 ((h y).2 (by simp)) with e | h2
        · exact e.symm
        · have := ha.1 y h2
          have := hb.1 x h1
          omega
    subst hxy
    congr 1
    refine rise_eq ha.2 hb.2 fun z => ?_
    constructor
    · intro hz
      have := ha.1 z hz
      rcases List.mem_cons.1 ((h z).1 (by simp [hz])) with e | h1
      · omega
      · exact h1
    · intro hz
      have := hb.1 z hz
      rcases List.mem_cons.1 ((h z).2 (by simp [hz])) with e | h1
      · omega
      · exact h1
theorem kex {kn : List (List Nat)} {of : Nat → Nat} (h : KnOk [[1], [0], [1]] kn of) : kn.length = 2 ∧ kn[0]! = [0, 1] ∧ of 2 = 1 := by
  have e01 : Ed [[1], [0], [1]] 0 1 := ⟨0, by decide, by decide, by decide, rfl⟩
  have e10 : Ed [[1], [0], [1]] 1 0 := ⟨0, by decide, by decide, by decide, rfl⟩
  have e21 : Ed [[1], [0], [1]] 2 1 := ⟨0, by decide, by decide, by decide, rfl⟩
  have hno : ¬ Rg [[1], [0], [1]] 1 2 := fun hr => by
    have := hr.closed (P := fun x => x ≤ 1) (fun a b ha ⟨k, h1, h2, h3, h4⟩ => by
      have ha : a = 0 ∨ a = 1 := by omega
      rcases ha with rfl | rfl
      · have : k = 0 := by have : k < 1 := h3; omega
        subst this
        have : (1 : Int) = (b : Int) := h4
        show b ≤ 1
        omega
      · have : k = 0 := by have : k < 1 := h3; omega
        subst this
        have : (0 : Int) = (b : Int) := h4
        show b ≤ 1
        omega) (by show (1 : Nat) ≤ 1; omega)
    have : (2 : Nat) ≤ 1 := this
    omega
  have h01 : of 0 = of 1 := (h.scc 0 1 (by decide) (by decide)).2 ⟨.one e01, .one e10⟩
  have h12 : of 1 ≤ of 2 := h.ord 2 1 (by decide) (by decide) (.one e21)
  have hne : of 1 ≠ of 2 := fun e => hno ((h.scc 1 2 (by decide) (by decide)).1 e).1
  have hrep : ∀ k, k < kn.length → of 1 = k ∨ of 2 = k := fun k hk => by
    obtain ⟨v, hv, hvk⟩ := h.rep hk
    have hv : v < 3 := hv
    have : v = 0 ∨ v = 1 ∨ v = 2 := by omega
    rcases this with rfl | rfl | rfl
    · exact .inl (h01 ▸ hvk)
    · exact .inl hvk
    · exact .inr hvk
  have h2 := (h.at_ 2 (by decide)).1
  have h1z : of 1 = 0 := by
    have := hrep 0 (by omega)
    omega
  have h2o : of 2 = 1 := by
    have := hrep 1 (by omega)
    omega
  have hlen : kn.length = 2 := by
    apply Nat.le_antisymm _ (by omega)
    apply Nat.le_of_not_lt
    intro hlt
    have := hrep 2 hlt
    omega
  refine ⟨hlen, ?_, h2o⟩
  obtain ⟨_, hs, hm⟩ := h.kn 0 (by omega)
  refine rise_eq hs (by decide) fun x => ?_
  constructor
  · intro hx
    obtain ⟨h3, h4⟩ := hm x hx
    have h3 : x < 3 := h3
    have : x = 0 ∨ x = 1 ∨ x = 2 := by omega
    rcases this with rfl | rfl | rfl
    · simp
    · simp
    · omega
  · intro hx
    have hx : x = 0 ∨ x = 1 := by simpa using hx
    rcases hx with rfl | rfl
    · have := (h.at_ 0 (by decide)).2
      rw [h01, h1z] at this
      exact this
    · have := (h.at_ 1 (by decide)).2
      rw [h1z] at this
      exact this
set_option maxHeartbeats 4000000 in
theorem awake16 (w : World) : Calls Try.prog 12 #[] w fun e w' => e = .returned (.bool true) ∧ Below w.heap.size w w' := by
  refine enterR (args := []) tabOk Try.func12 rfl Try.ntmps12 rfl ?_; conv => whnf
  refine wl_bs tabOk 3 1 rfl rfl rfl rfl rfl rfl rfl rfl rfl rfl ?_
  intro g4 w1 hn1
  refine run_l tabOk ?_
  conv => whnf
  refine wl_bs tabOk 3 1 rfl rfl rfl rfl rfl rfl rfl rfl rfl rfl ?_
  intro g5 w2 hn2
  refine run_l tabOk ?_
  conv => whnf
  refine wl_bs tabOk 3 1 rfl rfl rfl rfl rfl rfl rfl rfl rfl rfl ?_
  intro g6 w3 hn3
  refine run_l tabOk ?_
  conv => whnf
  refine wl_bs tabOk 24 1 rfl rfl rfl rfl rfl rfl rfl rfl rfl rfl ?_
  intro g7 w4 hn4
  refine run_l tabOk ?_
  conv => whnf
  have b4 := hn4.old (hn3.old (hn2.old hn1.blk))
  have b5 := hn4.old (hn3.old hn2.blk)
  have b6 := hn4.old hn3.blk
  have b7 := hn4.blk
  have hB : Below w.heap.size w w4 := hn4.up (hn3.up (hn2.up hn1.below))
  have hone : ∀ (g : Nat) (x : Int), w4.heap[g]? = some (.cells #[.int .i64 x] 3 (0, 0)) → x = 0 ∨ x = 1 → dInts w4 [.slice (some ⟨g, 0, none⟩) 1 1] [x] := fun g x hb hx =>
    ⟨_, 1, rfl, Nat.le_refl _, row_of_blk hb (Elems.one (d := dI .i64) rfl (ints_one (w := w4) (flat := []) (xs := []) (by omega))) (by simp)⟩
  have hr : RRows w4 (some ⟨g7, 0, none⟩) [[1], [0], [1]] := by
    refine row_of_blk b7 ⟨rfl, fun i hi => ?_⟩ (by decide)
    have hi : i < 3 := hi
    have : i = 0 ∨ i = 1 ∨ i = 2 := by omega
    rcases this with rfl | rfl | rfl
    · exact hone g4 1 b4 (.inr rfl)
    · exact hone g5 0 b5 (.inl rfl)
    · exact hone g6 1 b6 (.inr rfl)
  refine wl_C fn13 (kFind [[1], [0], [1]] (some ⟨g7, 0, none⟩) 3 w4 hr (by decide)) rfl rfl rfl rfl rfl rfl rfl ?_
  rintro _ w5 ⟨⟨kn, of, An, cn, go, rfl, hK, hrk, hcn, hof⟩, hB5⟩
  refine ⟨_, rfl, run_l tabOk ?_⟩
  obtain ⟨k1, k2, k3⟩ := kex hK
  rw [k1, show ([[1], [0], [1]] : List (List Int)).length = 3 from rfl]
  conv => whnf
  obtain ⟨x, ad, B, c, ⟨hx⟩, rfl, hc1, hc2, ⟨hR⟩⟩ := rowsE hrk 0 (by rw [knI_len]; omega)
  rw [knI_at (by omega), k2] at hx
  subst hx
  obtain ⟨y, ad2, ⟨hy⟩, rfl, hc3, _, _⟩ := intsE hR 1 (by simp)
  have hy : (1 : Int) = y := hy
  subst hy
  obtain ⟨z, ad3, ⟨hz⟩, e3, hc4, _, _⟩ := intsE hof 2 (by rw [ofI_len]; decide)
  rw [ofI_at _ (by decide), k3] at hz
  have hz : (1 : Int) = z := hz
  subst hz
  injection e3 with e3
  subst e3
  have hc1' : w5.cell? (ad.add ((0 : Int).toNat * 1)) = some (.slice (some ad2) 2 c) := hc1
  have hc3' : w5.cell? (ad2.add ((1 : Int).toNat * 1)) = some (.int .i64 1) := hc3
  have hc4' : w5.cell? ((⟨go, 0, none⟩ : Addr).add ((2 : Int).toNat * 1)) = some (.int .i64 1) := hc4
  (repeat' (first | (refine wl_L tabOk rfl rfl rfl rfl rfl rfl hc1' (run_l tabOk ?_); conv => whnf) | (refine wl_L tabOk rfl rfl rfl rfl rfl rfl hc3' (run_l tabOk ?_); conv => whnf) | (refine wl_L tabOk rfl rfl rfl rfl rfl rfl hc4' (run_l tabOk ?_); conv => whnf) | (refine wl_X tabOk 24 1 rfl rfl rfl rfl rfl rfl rfl (by omega) (by omega) (run_l tabOk ?_); conv => whnf) | (refine wl_X tabOk 3 1 rfl rfl rfl rfl rfl rfl rfl (by omega) (by omega) (run_l tabOk ?_); conv => whnf) | (refine wl_add rfl rfl rfl rfl rfl rfl (by omega) (by omega) (run_l tabOk ?_); conv => whnf) | (refine wl_sub rfl rfl rfl rfl rfl rfl (by omega) (by omega) (run_l tabOk ?_); conv => whnf) | (refine wl_cvA tabOk rfl rfl rfl (by simp only [inK]; omega) rfl rfl rfl (run_l tabOk ?_); conv => whnf) | (refine wl_cvB tabOk rfl rfl rfl rfl rfl rfl (run_l tabOk ?_); conv => whnf) | (refine wl_rem rfl rfl rfl rfl rfl rfl (by omega) (by omega) (fun r hr hr0 hr1 hr2 => run_l tabOk ?_); conv => whnf) | (refine wl_quo rfl rfl rfl rfl rfl rfl (by omega) (by omega) (by simp only [inK]; omega) (run_l tabOk ?_); conv => whnf) | (refine wl_mul rfl rfl rfl rfl rfl rfl (by omega) (by omega) (run_l tabOk ?_); conv => whnf) | (refine gs_dt (by first | assumption | omega) ?_; conv => whnf) | (refine gs_df (by first | assumption | omega) ?_; conv => whnf) | (refine gs_t (by assumption) ?_; conv => whnf) | (refine gs_f (by assumption) ?_; conv => whnf) | (refine gs_d (fun hg => ?_) (fun hg => ?_) <;> conv => whnf) | (refine gs_n (fun hg => ?_) (fun hg => ?_) <;> conv => whnf) | (refine gs_nb (fun hg => ?_) (fun hg => ?_) <;> conv => whnf) | (refine gs_b (fun hg => ?_) (fun hg => ?_) <;> conv => whnf) | refine fin1 rfl rfl ?_))
  exact ⟨rfl, bup hB hB5⟩
end Go.Proofs.Ytomldckplkecbaa
