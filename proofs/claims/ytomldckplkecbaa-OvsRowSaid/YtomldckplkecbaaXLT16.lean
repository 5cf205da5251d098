/- Turned about, a graph has the same knots. -/
import Derived.Test.YtomldckplkecbaaXLR16
namespace Go.Proofs.Ytomldckplkecbaa
open Go.RowKit
set_option linter.unusedVariables false
set_option linter.unusedSimpArgs false
set_option maxRecDepth 100000
theorem wrapu16 (a : Int) : 0 ≤ IntKind.u64.wrap a := by simp [IntKind.wrap, IntKind.bits, IntKind.signed]; omega
def tapp (f : Nat → List Int) (v : Nat) (x : Int) : Nat → List Int := setF f v (f v ++ [x])
theorem mem_tapp {f : Nat → List Int} {v a : Nat} {x y : Int} : y ∈ tapp f v x a ↔ y ∈ f a ∨ (a = v ∧ y = x) := by
  unfold tapp setF
  by_cases e : a = v
  · subst e; simp
  · simp [e]
theorem len_tapp {f : Nat → List Int} {v t : Nat} {x : Int} (h : ∀ j, (f j).length ≤ t) : ∀ j, (tapp f v x j).length ≤ t + 1 := fun j => by
  unfold tapp setF
  split
  · have := h v; simp; omega
  · have := h j; omega
/-- Two graphs that grow side by side. -/
structure G2 (base g1 g2 : Nat) (w : World) (vs1 vs2 : List Value) (M1 M2 : List (List Int)) (bl1 bl2 : List Nat) : Prop where
  m1 : GMat base g1 w vs1 M1 bl1
  m2 : GMat base g2 w vs2 M2 bl2
  ne : g1 ≠ g2
  a : g1 ∉ bl2
  b : g2 ∉ bl1
  d : ∀ b ∈ bl1, b ∉ bl2
section
variable {base g1 g2 : Nat} {w w1 w2 : World} {vs1 vs2 : List Value} {M1 M2 : List (List Int)} {bl1 bl2 : List Nat}
theorem G2.swap (h : G2 base g1 g2 w vs1 vs2 M1 M2 bl1 bl2) : G2 base g2 g1 w vs2 vs1 M2 M1 bl2 bl1 := ⟨h.m2, h.m1, h.ne.symm, h.b, h.a, fun b hb hm => h.d b hm hb⟩
theorem G2.below (h : G2 base g1 g2 w vs1 vs2 M1 M2 bl1 bl2) (hb : Below w.heap.size w w1) : G2 base g1 g2 w1 vs1 vs2 M1 M2 bl1 bl2 := ⟨h.m1.below hb, h.m2.below hb, h.ne, h.a, h.b, h.d⟩
theorem G2.app (h : G2 base g1 g2 w vs1 vs2 M1 M2 bl1 bl2) {i : Nat} (hi : i < M1.length) {v' : Value} {x : Int} (hv : GInts base w1 v' (M1[i]! ++ [x])) (hgr : w.grownBy w1 vs1[i]!.ownBlock)
    (hob : v'.ownBlock = vs1[i]!.ownBlock ∨ ∃ b, v'.ownBlock = some b ∧ w.heap.size ≤ b) (hp : Put w1 w2 g1 (vs1.set i v') 24) : G2 base g1 g2 w2 (vs1.set i v') vs2 (M1.set i (M1[i]! ++ [x])) M2 (bl1 ++ v'.ownBlock.toList) bl2 := by
  have hrow : ∀ b, vs1[i]!.ownBlock = some b → b ∈ bl1 := (h.m1.row i hi).2
  have hnew : ∀ b, b ∈ v'.ownBlock.toList → b ∈ bl1 ∨ w.heap.size ≤ b := fun b hb => by
    rcases hob with e1 | ⟨b', e1, e2⟩
    · exact .inl (hrow b (by rw [← e1]; simpa using hb))
    · rw [e1] at hb; simp at hb; subst hb; exact .inr e2
  refine ⟨h.m1.app hi hv hgr hob hp, ?_, h.ne, h.a, ?_, ?_⟩
  · refine (h.m2.stays hgr fun b e => ⟨fun e' => ?_, h.d b (hrow b e)⟩).stays hp.grown fun b e => ?_
    · exact h.b (e' ▸ hrow b e)
    · cases e
      exact ⟨h.ne, h.a⟩
  · intro hm
    rcases List.mem_append.1 hm with hm | hm
    · exact h.b hm
    · rcases hnew g2 hm with h1 | h1
      · exact h.b h1
      · have := blk_lt h.m2.blk; omega
  · intro b hb hm
    rcases List.mem_append.1 hb with hb | hb
    · exact h.d b hb hm
    · rcases hnew b hb with h1 | h1
      · exact h.d b h1 hm
      · have := (h.m2.lt b hm).2; omega
end
theorem gF_app {n v : Nat} {f : Nat → List Int} {x : Int} (hv : v < n) : (gF n f).set v ((gF n f)[v]! ++ [x]) = gF n (tapp f v x) := by rw [gF_at f hv, gF_set]; rfl
theorem ed_gF {n v w : Nat} {f : Nat → List Int} : Ed (gF n f) v w ↔ v < n ∧ w < n ∧ (w : Int) ∈ f v := by
  constructor
  · rintro ⟨k, h1, h2, h3, h4⟩
    rw [gF_len] at h1 h2
    rw [gF_at f h1] at h3 h4
    refine ⟨h1, h2, ?_⟩
    rw [← h4, getElem!_pos _ k h3]
    exact List.getElem_mem h3
  · rintro ⟨h1, h2, h3⟩
    obtain ⟨k, hk, e⟩ := List.getElem_of_mem h3
    exact ⟨k, by rw [gF_len]; exact h1, by rw [gF_len]; exact h2, by rw [gF_at f h1]; exact hk, by rw [gF_at f h1, getElem!_pos _ k hk]; exact e⟩
theorem Rch.rev {E E2 : Nat → Nat → Prop} (h : ∀ a b, E a b → E2 b a) {a b : Nat} (k : Rch E a b) : Rch E2 b a := by
  induction k with
  | refl => exact .refl _
  | step e _ ih => exact ih.trans (.one (h _ _ e))
/-- Turned about. -/
def Trn (f1 f2 : Nat → List Int) : Prop := ∀ v w : Nat, (w : Int) ∈ f1 v ↔ (v : Int) ∈ f2 w
theorem Trn.app {f1 f2 : Nat → List Int} (h : Trn f1 f2) (v w : Nat) : Trn (tapp f1 v w) (tapp f2 w v) := fun a b => by
  rw [mem_tapp, mem_tapp, h a b]
  constructor
  · rintro (h1 | ⟨h1, h2⟩)
    · exact .inl h1
    · exact .inr ⟨by omega, by omega⟩
  · rintro (h1 | ⟨h1, h2⟩)
    · exact .inl h1
    · exact .inr ⟨by omega, by omega⟩
theorem Trn.rg {n : Nat} {f1 f2 : Nat → List Int} (h : Trn f1 f2) {a b : Nat} : Rg (gF n f1) a b ↔ Rg (gF n f2) b a := by
  constructor
  · exact Rch.rev fun x y e => by
      rw [ed_gF] at e ⊢
      exact ⟨e.2.1, e.1, (h x y).1 e.2.2⟩
  · exact Rch.rev fun x y e => by
      rw [ed_gF] at e ⊢
      exact ⟨e.2.1, e.1, (h y x).2 e.2.2⟩
theorem same_dec {p q : Prop} [Decidable p] [Decidable q] (h : p ↔ q) : (decide p == decide q) = true := by
  by_cases hp : p
  · simp [hp, h.1 hp]
  · have hq : ¬ q := fun hq => hp (h.2 hq)
    simp [hp, hq]
set_option maxHeartbeats 16000000 in
theorem lawKnotTurned (M : List (List Int)) (A : Option Addr) (c : Nat) (w : World) (hM : RRows w A M) (hc : M.length ≤ c) :
    Calls Try.prog 6 #[.slice A M.length c] w fun e w' => e = .returned (.bool true) ∧ Below w.heap.size w w' := by
  refine enterR (args := [.slice A M.length c]) tabOk Try.func6 rfl Try.ntmps6 rfl ?_; conv => whnf
  refine wl_C fn12 (awake16 w) rfl rfl rfl rfl rfl rfl rfl ?_
  rintro _ w1 ⟨rfl, hB1⟩
  refine ⟨_, rfl, run_l tabOk ?_⟩
  conv => whnf
  by_cases hbig : 20 < M.length
  · (repeat' (first | (refine wl_add rfl rfl rfl rfl rfl rfl (by omega) (by omega) (run_l tabOk ?_); conv => whnf) | (refine wl_sub rfl rfl rfl rfl rfl rfl (by omega) (by omega) (run_l tabOk ?_); conv => whnf) | (refine wl_cvA tabOk rfl rfl rfl (by simp only [inK]; omega) rfl rfl rfl (run_l tabOk ?_); conv => whnf) | (refine wl_cvB tabOk rfl rfl rfl rfl rfl rfl (run_l tabOk ?_); conv => whnf) | (refine wl_rem rfl rfl rfl rfl rfl rfl (by omega) (by omega) (fun r hr hr0 hr1 hr2 => run_l tabOk ?_); conv => whnf) | (refine wl_quo rfl rfl rfl rfl rfl rfl (by omega) (by omega) (by simp only [inK]; omega) (run_l tabOk ?_); conv => whnf) | (refine wl_mul rfl rfl rfl rfl rfl rfl (by omega) (by omega) (run_l tabOk ?_); conv => whnf) | (refine gs_dt (by first | assumption | omega) ?_; conv => whnf) | (refine gs_df (by first | assumption | omega) ?_; conv => whnf) | (refine gs_t (by assumption) ?_; conv => whnf) | (refine gs_f (by assumption) ?_; conv => whnf) | (refine gs_d (fun hg => ?_) (fun hg => ?_) <;> conv => whnf) | (refine gs_n (fun hg => ?_) (fun hg => ?_) <;> conv => whnf) | (refine gs_nb (fun hg => ?_) (fun hg => ?_) <;> conv => whnf) | (refine gs_b (fun hg => ?_) (fun hg => ?_) <;> conv => whnf) | refine fin1 rfl rfl ?_))
    refine wl_C fn12 (awake16 w1) rfl rfl rfl rfl rfl rfl rfl ?_
    rintro _ w2 ⟨rfl, hB2⟩
    refine ⟨_, rfl, run_l tabOk ?_⟩
    conv => whnf
    (repeat' (first | (refine wl_add rfl rfl rfl rfl rfl rfl (by omega) (by omega) (run_l tabOk ?_); conv => whnf) | (refine wl_sub rfl rfl rfl rfl rfl rfl (by omega) (by omega) (run_l tabOk ?_); conv => whnf) | (refine wl_cvA tabOk rfl rfl rfl (by simp only [inK]; omega) rfl rfl rfl (run_l tabOk ?_); conv => whnf) | (refine wl_cvB tabOk rfl rfl rfl rfl rfl rfl (run_l tabOk ?_); conv => whnf) | (refine wl_rem rfl rfl rfl rfl rfl rfl (by omega) (by omega) (fun r hr hr0 hr1 hr2 => run_l tabOk ?_); conv => whnf) | (refine wl_quo rfl rfl rfl rfl rfl rfl (by omega) (by omega) (by simp only [inK]; omega) (run_l tabOk ?_); conv => whnf) | (refine wl_mul rfl rfl rfl rfl rfl rfl (by omega) (by omega) (run_l tabOk ?_); conv => whnf) | (refine gs_dt (by first | assumption | omega) ?_; conv => whnf) | (refine gs_df (by first | assumption | omega) ?_; conv => whnf) | (refine gs_t (by assumption) ?_; conv => whnf) | (refine gs_f (by assumption) ?_; conv => whnf) | (refine gs_d (fun hg => ?_) (fun hg => ?_) <;> conv => whnf) | (refine gs_n (fun hg => ?_) (fun hg => ?_) <;> conv => whnf) | (refine gs_nb (fun hg => ?_) (fun hg => ?_) <;> conv => whnf) | (refine gs_b (fun hg => ?_) (fun hg => ?_) <;> conv => whnf) | refine fin1 rfl rfl ?_))
    exact ⟨rfl, bup hB1 hB2⟩
  obtain ⟨n, hn⟩ : ∃ n, n = M.length := ⟨_, rfl⟩
  (repeat' (first | (refine wl_add rfl rfl rfl rfl rfl rfl (by omega) (by omega) (run_l tabOk ?_); conv => whnf) | (refine wl_sub rfl rfl rfl rfl rfl rfl (by omega) (by omega) (run_l tabOk ?_); conv => whnf) | (refine wl_cvA tabOk rfl rfl rfl (by simp only [inK]; omega) rfl rfl rfl (run_l tabOk ?_); conv => whnf) | (refine wl_cvB tabOk rfl rfl rfl rfl rfl rfl (run_l tabOk ?_); conv => whnf) | (refine wl_rem rfl rfl rfl rfl rfl rfl (by omega) (by omega) (fun r hr hr0 hr1 hr2 => run_l tabOk ?_); conv => whnf) | (refine wl_quo rfl rfl rfl rfl rfl rfl (by omega) (by omega) (by simp only [inK]; omega) (run_l tabOk ?_); conv => whnf) | (refine wl_mul rfl rfl rfl rfl rfl rfl (by omega) (by omega) (run_l tabOk ?_); conv => whnf) | (refine gs_dt (by first | assumption | omega) ?_; conv => whnf) | (refine gs_df (by first | assumption | omega) ?_; conv => whnf) | (refine gs_t (by assumption) ?_; conv => whnf) | (refine gs_f (by assumption) ?_; conv => whnf) | (refine gs_d (fun hg => ?_) (fun hg => ?_) <;> conv => whnf) | (refine gs_n (fun hg => ?_) (fun hg => ?_) <;> conv => whnf) | (refine gs_nb (fun hg => ?_) (fun hg => ?_) <;> conv => whnf) | (refine gs_b (fun hg => ?_) (fun hg => ?_) <;> conv => whnf) | refine fin1 rfl rfl ?_))
  refine wl_mk (m := M.length) tabOk 24 1 24 rfl rfl rfl rfl rfl rfl rfl rfl rfl (by omega) (by omega) ?_
  intro g1 w2 hn2
  refine run_l tabOk ?_
  conv => whnf
  (repeat' (first | (refine wl_add rfl rfl rfl rfl rfl rfl (by omega) (by omega) (run_l tabOk ?_); conv => whnf) | (refine wl_sub rfl rfl rfl rfl rfl rfl (by omega) (by omega) (run_l tabOk ?_); conv => whnf) | (refine wl_cvA tabOk rfl rfl rfl (by simp only [inK]; omega) rfl rfl rfl (run_l tabOk ?_); conv => whnf) | (refine wl_cvB tabOk rfl rfl rfl rfl rfl rfl (run_l tabOk ?_); conv => whnf) | (refine wl_rem rfl rfl rfl rfl rfl rfl (by omega) (by omega) (fun r hr hr0 hr1 hr2 => run_l tabOk ?_); conv => whnf) | (refine wl_quo rfl rfl rfl rfl rfl rfl (by omega) (by omega) (by simp only [inK]; omega) (run_l tabOk ?_); conv => whnf) | (refine wl_mul rfl rfl rfl rfl rfl rfl (by omega) (by omega) (run_l tabOk ?_); conv => whnf) | (refine gs_dt (by first | assumption | omega) ?_; conv => whnf) | (refine gs_df (by first | assumption | omega) ?_; conv => whnf) | (refine gs_t (by assumption) ?_; conv => whnf) | (refine gs_f (by assumption) ?_; conv => whnf) | (refine gs_d (fun hg => ?_) (fun hg => ?_) <;> conv => whnf) | (refine gs_n (fun hg => ?_) (fun hg => ?_) <;> conv => whnf) | (refine gs_nb (fun hg => ?_) (fun hg => ?_) <;> conv => whnf) | (refine gs_b (fun hg => ?_) (fun hg => ?_) <;> conv => whnf) | refine fin1 rfl rfl ?_))
  refine wl_mk (m := M.length) tabOk 24 1 24 rfl rfl rfl rfl rfl rfl rfl rfl rfl (by omega) (by omega) ?_
  intro g2 w3 hn3
  refine run_l tabOk ?_
  conv => whnf
  (repeat' (first | (refine wl_add rfl rfl rfl rfl rfl rfl (by omega) (by omega) (run_l tabOk ?_); conv => whnf) | (refine wl_sub rfl rfl rfl rfl rfl rfl (by omega) (by omega) (run_l tabOk ?_); conv => whnf) | (refine wl_cvA tabOk rfl rfl rfl (by simp only [inK]; omega) rfl rfl rfl (run_l tabOk ?_); conv => whnf) | (refine wl_cvB tabOk rfl rfl rfl rfl rfl rfl (run_l tabOk ?_); conv => whnf) | (refine wl_rem rfl rfl rfl rfl rfl rfl (by omega) (by omega) (fun r hr hr0 hr1 hr2 => run_l tabOk ?_); conv => whnf) | (refine wl_quo rfl rfl rfl rfl rfl rfl (by omega) (by omega) (by simp only [inK]; omega) (run_l tabOk ?_); conv => whnf) | (refine wl_mul rfl rfl rfl rfl rfl rfl (by omega) (by omega) (run_l tabOk ?_); conv => whnf) | (refine gs_dt (by first | assumption | omega) ?_; conv => whnf) | (refine gs_df (by first | assumption | omega) ?_; conv => whnf) | (refine gs_t (by assumption) ?_; conv => whnf) | (refine gs_f (by assumption) ?_; conv => whnf) | (refine gs_d (fun hg => ?_) (fun hg => ?_) <;> conv => whnf) | (refine gs_n (fun hg => ?_) (fun hg => ?_) <;> conv => whnf) | (refine gs_nb (fun hg => ?_) (fun hg => ?_) <;> conv => whnf) | (refine gs_b (fun hg => ?_) (fun hg => ?_) <;> conv => whnf) | refine fin1 rfl rfl ?_))
  rw [← hn] at hc hbig hn2 hn3 ⊢
  have hB3 := hn3.up (hn2.up hB1)
  have hg1 : w.heap.size ≤ g1 := by have := hn2.at_; have := hB1.size; omega
  have hg2 : w.heap.size ≤ g2 ∧ g1 < g2 := by have := hn2.at_; have := hn3.at_; have := hn2.size; have := hB1.size; omega
  have e0 : ∀ n, List.replicate n ([] : List Int) = gF n (fun _ => []) := fun n => by
    apply List.ext_getElem (by simp [gF])
    intro i h1 h2
    simp [gF]
  have hG3 : G2 w.heap.size g1 g2 w3 (List.replicate n (.slice none 0 0)) (List.replicate n (.slice none 0 0)) (gF n fun _ => []) (gF n fun _ => []) [] [] := by
    rw [← e0]
    exact ⟨GMat.init (hn3.old hn2.blk) hg1, GMat.init hn3.blk hg2.1, by omega, by simp, by simp, by simp⟩
  clear hn2 hn3 hB1
  refine lp_loop tabOk (X := Nat) (fun v => [(0, .slice A n c), (3, .int .i64 (n : Int)), (4, .slice (some ⟨g1, 0, none⟩) n n), (5, .slice (some ⟨g2, 0, none⟩) n n), (6, .int .i64 (v : Int))])
    (fun v wr => v ≤ n ∧ Below w.heap.size w wr ∧ ∃ f1 f2 vs1 vs2 bl1 bl2, G2 w.heap.size g1 g2 wr vs1 vs2 (gF n f1) (gF n f2) bl1 bl2 ∧ Trn f1 f2 ∧ (∀ j, (f1 j).length ≤ 6 * v) ∧ ∀ j, (f2 j).length ≤ 6 * v) (fun v => n - v) 0 ⟨rfl, rfl, rfl, rfl, rfl, trivial⟩ ⟨by omega, hB3, _, _, _, _, _, _, hG3, fun _ _ => by simp, by simp, by simp⟩ ?_
  clear hG3 hB3
  rintro v G wr ⟨hv, hB, f1, f2, vs1, vs2, bl1, bl2, hG, hT, hl1, hl2⟩
  conv => whnf
  by_cases hlt : v < n
  · (repeat' (first | (refine wl_add rfl rfl rfl rfl rfl rfl (by omega) (by omega) (run_l tabOk ?_); conv => whnf) | (refine wl_sub rfl rfl rfl rfl rfl rfl (by omega) (by omega) (run_l tabOk ?_); conv => whnf) | (refine wl_cvA tabOk rfl rfl rfl (by simp only [inK]; omega) rfl rfl rfl (run_l tabOk ?_); conv => whnf) | (refine wl_cvB tabOk rfl rfl rfl rfl rfl rfl (run_l tabOk ?_); conv => whnf) | (refine wl_rem rfl rfl rfl rfl rfl rfl (by omega) (by omega) (fun r hr hr0 hr1 hr2 => run_l tabOk ?_); conv => whnf) | (refine wl_quo rfl rfl rfl rfl rfl rfl (by omega) (by omega) (by simp only [inK]; omega) (run_l tabOk ?_); conv => whnf) | (refine wl_mul rfl rfl rfl rfl rfl rfl (by omega) (by omega) (run_l tabOk ?_); conv => whnf) | (refine gs_dt (by first | assumption | omega) ?_; conv => whnf) | (refine gs_df (by first | assumption | omega) ?_; conv => whnf) | (refine gs_t (by assumption) ?_; conv => whnf) | (refine gs_f (by assumption) ?_; conv => whnf) | (refine gs_d (fun hg => ?_) (fun hg => ?_) <;> conv => whnf) | (refine gs_n (fun hg => ?_) (fun hg => ?_) <;> conv => whnf) | (refine gs_nb (fun hg => ?_) (fun hg => ?_) <;> conv => whnf) | (refine gs_b (fun hg => ?_) (fun hg => ?_) <;> conv => whnf) | refine fin1 rfl rfl ?_))
    refine lp_loop tabOk (X := Nat) (fun k => [(0, .slice A n c), (3, .int .i64 (n : Int)), (4, .slice (some ⟨g1, 0, none⟩) n n), (5, .slice (some ⟨g2, 0, none⟩) n n), (6, .int .i64 (v : Int)), (7, .int .i64 (k : Int))])
      (fun k wr => k ≤ 6 ∧ Below w.heap.size w wr ∧ ∃ f1 f2 vs1 vs2 bl1 bl2, G2 w.heap.size g1 g2 wr vs1 vs2 (gF n f1) (gF n f2) bl1 bl2 ∧ Trn f1 f2 ∧ (∀ j, (f1 j).length ≤ 6 * v + k) ∧ ∀ j, (f2 j).length ≤ 6 * v + k) (fun k => 6 - k) 0 ⟨rfl, rfl, rfl, rfl, rfl, rfl, trivial⟩ ⟨by omega, hB, _, _, _, _, _, _, hG, hT, hl1, hl2⟩ ?_
    clear hG hB hT hl1 hl2 f1 f2 vs1 vs2 bl1 bl2
    rintro k G3 wk ⟨hk, hB, f1, f2, vs1, vs2, bl1, bl2, hG, hT, hl1, hl2⟩
    conv => whnf
    obtain ⟨x, ad, B, cc, ⟨hx⟩, rfl, hrow, hxc, ⟨hRI⟩⟩ := rowsE (hM.up stays_Ints hB) v (by omega)
    by_cases hk6 : k < x.length ∧ k < 6
    · obtain ⟨hkx, hk6⟩ := hk6
      obtain ⟨y, ad2, ⟨hy⟩, rfl, hyc, _, _⟩ := intsE hRI k hkx
      have hli1 : v < (gF n f1).length := by rw [gF_len]; exact hlt
      have hcell := hG.m1.cell hli1
      obtain ⟨Ar, cr, er, _, _⟩ := hG.m1.rowAt hli1
      rw [gF_at f1 hlt] at er
      rw [er] at hcell
      (repeat' (first | (refine wl_L tabOk rfl rfl rfl rfl rfl rfl hrow (run_l tabOk ?_); conv => whnf) | (refine wl_L tabOk rfl rfl rfl rfl rfl rfl hyc (run_l tabOk ?_); conv => whnf) | (refine wl_L tabOk rfl rfl rfl rfl rfl rfl hcell (run_l tabOk ?_); conv => whnf) | (refine wl_Xn tabOk 24 1 rfl rfl rfl rfl rfl rfl rfl (by omega) (run_l tabOk ?_); conv => whnf) | (refine wl_Xn tabOk 3 1 rfl rfl rfl rfl rfl rfl rfl (by omega) (run_l tabOk ?_); conv => whnf) | (refine wl_rem rfl rfl rfl rfl rfl rfl (wrapu16 _) (by omega) (fun r hr hr0 hr1 hr2 => ?_); obtain ⟨q, rfl⟩ := Int.eq_ofNat_of_zero_le hr0; refine run_l tabOk ?_; (conv => whnf)) | (refine wl_add rfl rfl rfl rfl rfl rfl (by omega) (by omega) (run_l tabOk ?_); conv => whnf) | (refine wl_sub rfl rfl rfl rfl rfl rfl (by omega) (by omega) (run_l tabOk ?_); conv => whnf) | (refine wl_cvA tabOk rfl rfl rfl (by simp only [inK]; omega) rfl rfl rfl (run_l tabOk ?_); conv => whnf) | (refine wl_cvB tabOk rfl rfl rfl rfl rfl rfl (run_l tabOk ?_); conv => whnf) | (refine wl_rem rfl rfl rfl rfl rfl rfl (by omega) (by omega) (fun r hr hr0 hr1 hr2 => run_l tabOk ?_); conv => whnf) | (refine wl_quo rfl rfl rfl rfl rfl rfl (by omega) (by omega) (by simp only [inK]; omega) (run_l tabOk ?_); conv => whnf) | (refine wl_mul rfl rfl rfl rfl rfl rfl (by omega) (by omega) (run_l tabOk ?_); conv => whnf) | (refine gs_dt (by first | assumption | omega) ?_; conv => whnf) | (refine gs_df (by first | assumption | omega) ?_; conv => whnf) | (refine gs_t (by assumption) ?_; conv => whnf) | (refine gs_f (by assumption) ?_; conv => whnf) | (refine gs_d (fun hg => ?_) (fun hg => ?_) <;> conv => whnf) | (refine gs_n (fun hg => ?_) (fun hg => ?_) <;> conv => whnf) | (refine gs_nb (fun hg => ?_) (fun hg => ?_) <;> conv => whnf) | (refine gs_b (fun hg => ?_) (fun hg => ?_) <;> conv => whnf) | refine fin1 rfl rfl ?_))
      have hqn : q < n := by omega
      have hl1v := hl1 v
      refine wl_bs tabOk 3 1 rfl rfl rfl rfl rfl rfl rfl rfl rfl rfl ?_
      intro g8 w8 hn8
      refine run_l tabOk ?_
      conv => whnf
      have hG8 := hG.below hn8.below
      have hrow8 := (hG8.m1.row v hli1).1
      rw [er, gF_at f1 hlt] at hrow8
      obtain ⟨⟨flat, hown, hel⟩, _, _⟩ := id hrow8
      refine wl_ap tabOk 3 1 8 hown hn8.blk rfl rfl rfl rfl rfl rfl rfl rfl rfl rfl rfl (by simp) (by simp [Value.oneCell']) (by omega) (by omega) (by have := hB.size; have := hn8.size; omega) ?_
      intro E ec w9 hown9 hg9 hob9
      refine run_l tabOk ?_
      conv => whnf
      (repeat' (first | (refine wl_Xn tabOk 24 1 rfl rfl rfl rfl rfl rfl rfl (by omega) (run_l tabOk ?_); conv => whnf) | (refine wl_add rfl rfl rfl rfl rfl rfl (by omega) (by omega) (run_l tabOk ?_); conv => whnf) | (refine wl_sub rfl rfl rfl rfl rfl rfl (by omega) (by omega) (run_l tabOk ?_); conv => whnf) | (refine wl_cvA tabOk rfl rfl rfl (by simp only [inK]; omega) rfl rfl rfl (run_l tabOk ?_); conv => whnf) | (refine wl_cvB tabOk rfl rfl rfl rfl rfl rfl (run_l tabOk ?_); conv => whnf) | (refine wl_rem rfl rfl rfl rfl rfl rfl (by omega) (by omega) (fun r hr hr0 hr1 hr2 => run_l tabOk ?_); conv => whnf) | (refine wl_quo rfl rfl rfl rfl rfl rfl (by omega) (by omega) (by simp only [inK]; omega) (run_l tabOk ?_); conv => whnf) | (refine wl_mul rfl rfl rfl rfl rfl rfl (by omega) (by omega) (run_l tabOk ?_); conv => whnf) | (refine gs_dt (by first | assumption | omega) ?_; conv => whnf) | (refine gs_df (by first | assumption | omega) ?_; conv => whnf) | (refine gs_t (by assumption) ?_; conv => whnf) | (refine gs_f (by assumption) ?_; conv => whnf) | (refine gs_d (fun hg => ?_) (fun hg => ?_) <;> conv => whnf) | (refine gs_n (fun hg => ?_) (fun hg => ?_) <;> conv => whnf) | (refine gs_nb (fun hg => ?_) (fun hg => ?_) <;> conv => whnf) | (refine gs_b (fun hg => ?_) (fun hg => ?_) <;> conv => whnf) | refine fin1 rfl rfl ?_))
      have hv9 := gints_push hrow8 hel hown9 hg9 hob9 (by omega)
      have hb9 : w9.heap[g1]? = some (.cells vs1.toArray 24 (0, 0)) := (hg9.block g1 (blk_lt hG8.m1.blk) (fun e => hG8.m1.gb ((hG8.m1.row v hli1).2 g1 (by rw [er]; exact e.symm)))).trans hG8.m1.blk
      have hvl1 := hG.m1.len
      rw [gF_len] at hvl1
      refine wl_Se (j := v * 1) (v := .slice E ((f1 v).length + 1) ec) tabOk hb9 rfl rfl rfl rfl rfl rfl (by omega) rfl rfl ?_
      intro w10 hp10
      refine run_l tabOk ?_
      conv => whnf
      rw [Nat.mul_one] at hp10
      have hG10 := hG8.app (i := v) hli1 (v' := .slice E ((f1 v).length + 1) ec) (x := (q : Int)) (by rw [gF_at f1 hlt]; exact hv9) (by rw [er]; exact hg9) (by rw [er]; exact hob9.imp id fun e => ⟨_, e, Nat.le_refl _⟩) hp10
      rw [gF_app hlt] at hG10
      have hB9 : Below w.heap.size w w9 := (bup hB hn8.below).grown hg9 (bup hB hn8.below).size (fun b hb => (hG8.m1.lt b ((hG8.m1.row v hli1).2 b (by rw [er]; exact hb))).1)
      have hB10 : Below w.heap.size w w10 := hp10.below hB9 hg1 hB9.size
      clear hG hG8 hrow8 hown hel hown9 hg9 hob9 hv9 hb9 hp10 hn8 hB9 hcell er
      have hG := hG10.swap
      clear hG10
      have hli2 : q < (gF n f2).length := by rw [gF_len]; exact hqn
      have hcell := hG.m1.cell hli2
      obtain ⟨Ar2, cr2, er, _, _⟩ := hG.m1.rowAt hli2
      rw [gF_at f2 hqn] at er
      rw [er] at hcell
      have hl2q := hl2 q
      (repeat' (first | (refine wl_L tabOk rfl rfl rfl rfl rfl rfl hcell (run_l tabOk ?_); conv => whnf) | (refine wl_Xn tabOk 24 1 rfl rfl rfl rfl rfl rfl rfl (by omega) (run_l tabOk ?_); conv => whnf) | (refine wl_Xn tabOk 3 1 rfl rfl rfl rfl rfl rfl rfl (by omega) (run_l tabOk ?_); conv => whnf) | (refine wl_add rfl rfl rfl rfl rfl rfl (by omega) (by omega) (run_l tabOk ?_); conv => whnf) | (refine wl_sub rfl rfl rfl rfl rfl rfl (by omega) (by omega) (run_l tabOk ?_); conv => whnf) | (refine wl_cvA tabOk rfl rfl rfl (by simp only [inK]; omega) rfl rfl rfl (run_l tabOk ?_); conv => whnf) | (refine wl_cvB tabOk rfl rfl rfl rfl rfl rfl (run_l tabOk ?_); conv => whnf) | (refine wl_rem rfl rfl rfl rfl rfl rfl (by omega) (by omega) (fun r hr hr0 hr1 hr2 => run_l tabOk ?_); conv => whnf) | (refine wl_quo rfl rfl rfl rfl rfl rfl (by omega) (by omega) (by simp only [inK]; omega) (run_l tabOk ?_); conv => whnf) | (refine wl_mul rfl rfl rfl rfl rfl rfl (by omega) (by omega) (run_l tabOk ?_); conv => whnf) | (refine gs_dt (by first | assumption | omega) ?_; conv => whnf) | (refine gs_df (by first | assumption | omega) ?_; conv => whnf) | (refine gs_t (by assumption) ?_; conv => whnf) | (refine gs_f (by assumption) ?_; conv => whnf) | (refine gs_d (fun hg => ?_) (fun hg => ?_) <;> conv => whnf) | (refine gs_n (fun hg => ?_) (fun hg => ?_) <;> conv => whnf) | (refine gs_nb (fun hg => ?_) (fun hg => ?_) <;> conv => whnf) | (refine gs_b (fun hg => ?_) (fun hg => ?_) <;> conv => whnf) | refine fin1 rfl rfl ?_))
      refine wl_bs tabOk 3 1 rfl rfl rfl rfl rfl rfl rfl rfl rfl rfl ?_
      intro g11 w11 hn11
      refine run_l tabOk ?_
      conv => whnf
      have hG8 := hG.below hn11.below
      have hrow8 := (hG8.m1.row q hli2).1
      rw [er, gF_at f2 hqn] at hrow8
      obtain ⟨⟨flat, hown, hel⟩, _, _⟩ := id hrow8
      refine wl_ap tabOk 3 1 8 hown hn11.blk rfl rfl rfl rfl rfl rfl rfl rfl rfl rfl rfl (by simp) (by simp [Value.oneCell']) (by omega) (by omega) (by have := hB10.size; have := hn11.size; omega) ?_
      intro E2 ec2 w12 hown9 hg9 hob9
      refine run_l tabOk ?_
      conv => whnf
      (repeat' (first | (refine wl_Xn tabOk 24 1 rfl rfl rfl rfl rfl rfl rfl (by omega) (run_l tabOk ?_); conv => whnf) | (refine wl_add rfl rfl rfl rfl rfl rfl (by omega) (by omega) (run_l tabOk ?_); conv => whnf) | (refine wl_sub rfl rfl rfl rfl rfl rfl (by omega) (by omega) (run_l tabOk ?_); conv => whnf) | (refine wl_cvA tabOk rfl rfl rfl (by simp only [inK]; omega) rfl rfl rfl (run_l tabOk ?_); conv => whnf) | (refine wl_cvB tabOk rfl rfl rfl rfl rfl rfl (run_l tabOk ?_); conv => whnf) | (refine wl_rem rfl rfl rfl rfl rfl rfl (by omega) (by omega) (fun r hr hr0 hr1 hr2 => run_l tabOk ?_); conv => whnf) | (refine wl_quo rfl rfl rfl rfl rfl rfl (by omega) (by omega) (by simp only [inK]; omega) (run_l tabOk ?_); conv => whnf) | (refine wl_mul rfl rfl rfl rfl rfl rfl (by omega) (by omega) (run_l tabOk ?_); conv => whnf) | (refine gs_dt (by first | assumption | omega) ?_; conv => whnf) | (refine gs_df (by first | assumption | omega) ?_; conv => whnf) | (refine gs_t (by assumption) ?_; conv => whnf) | (refine gs_f (by assumption) ?_; conv => whnf) | (refine gs_d (fun hg => ?_) (fun hg => ?_) <;> conv => whnf) | (refine gs_n (fun hg => ?_) (fun hg => ?_) <;> conv => whnf) | (refine gs_nb (fun hg => ?_) (fun hg => ?_) <;> conv => whnf) | (refine gs_b (fun hg => ?_) (fun hg => ?_) <;> conv => whnf) | refine fin1 rfl rfl ?_))
      have hv9 := gints_push hrow8 hel hown9 hg9 hob9 (by omega)
      have hb9 : w12.heap[g2]? = some (.cells vs2.toArray 24 (0, 0)) := (hg9.block g2 (blk_lt hG8.m1.blk) (fun e => hG8.m1.gb ((hG8.m1.row q hli2).2 g2 (by rw [er]; exact e.symm)))).trans hG8.m1.blk
      have hvl2 := hG.m1.len
      rw [gF_len] at hvl2
      refine wl_Se (j := q * 1) (v := .slice E2 ((f2 q).length + 1) ec2) tabOk hb9 rfl rfl rfl rfl rfl rfl (by omega) rfl rfl ?_
      intro w13 hp10
      refine run_l tabOk ?_
      conv => whnf
      rw [Nat.mul_one] at hp10
      have hG10 := hG8.app (i := q) hli2 (v' := .slice E2 ((f2 q).length + 1) ec2) (x := (v : Int)) (by rw [gF_at f2 hqn]; exact hv9) (by rw [er]; exact hg9) (by rw [er]; exact hob9.imp id fun e => ⟨_, e, Nat.le_refl _⟩) hp10
      rw [gF_app hqn] at hG10
      have hB12 : Below w.heap.size w w12 := (bup hB10 hn11.below).grown hg9 (bup hB10 hn11.below).size (fun b hb => (hG8.m1.lt b ((hG8.m1.row q hli2).2 b (by rw [er]; exact hb))).1)
      have hB13 : Below w.heap.size w w13 := hp10.below hB12 hg2.1 hB12.size
      (repeat' (first | (refine wl_add rfl rfl rfl rfl rfl rfl (by omega) (by omega) (run_l tabOk ?_); conv => whnf) | (refine wl_sub rfl rfl rfl rfl rfl rfl (by omega) (by omega) (run_l tabOk ?_); conv => whnf) | (refine wl_cvA tabOk rfl rfl rfl (by simp only [inK]; omega) rfl rfl rfl (run_l tabOk ?_); conv => whnf) | (refine wl_cvB tabOk rfl rfl rfl rfl rfl rfl (run_l tabOk ?_); conv => whnf) | (refine wl_rem rfl rfl rfl rfl rfl rfl (by omega) (by omega) (fun r hr hr0 hr1 hr2 => run_l tabOk ?_); conv => whnf) | (refine wl_quo rfl rfl rfl rfl rfl rfl (by omega) (by omega) (by simp only [inK]; omega) (run_l tabOk ?_); conv => whnf) | (refine wl_mul rfl rfl rfl rfl rfl rfl (by omega) (by omega) (run_l tabOk ?_); conv => whnf) | (refine gs_dt (by first | assumption | omega) ?_; conv => whnf) | (refine gs_df (by first | assumption | omega) ?_; conv => whnf) | (refine gs_t (by assumption) ?_; conv => whnf) | (refine gs_f (by assumption) ?_; conv => whnf) | (refine gs_d (fun hg => ?_) (fun hg => ?_) <;> conv => whnf) | (refine gs_n (fun hg => ?_) (fun hg => ?_) <;> conv => whnf) | (refine gs_nb (fun hg => ?_) (fun hg => ?_) <;> conv => whnf) | (refine gs_b (fun hg => ?_) (fun hg => ?_) <;> conv => whnf) | refine fin1 rfl rfl ?_))
      exact ⟨k + 1, ⟨rfl, rfl, rfl, rfl, rfl, rfl, trivial⟩, ⟨by omega, hB13, _, _, _, _, _, _, hG10.swap, hT.app v q, len_tapp hl1, len_tapp hl2⟩, by omega⟩
    · have hout : ∀ j, (f1 j).length ≤ 6 * (v + 1) ∧ (f2 j).length ≤ 6 * (v + 1) := fun j => by have := hl1 j; have := hl2 j; omega
      by_cases hkx : k < x.length
      · have hk6' : ¬ k < 6 := fun h6 => hk6 ⟨hkx, h6⟩
        (repeat' (first | (refine wl_L tabOk rfl rfl rfl rfl rfl rfl hrow (run_l tabOk ?_); conv => whnf) | (refine wl_Xn tabOk 24 1 rfl rfl rfl rfl rfl rfl rfl (by omega) (run_l tabOk ?_); conv => whnf) | (refine wl_add rfl rfl rfl rfl rfl rfl (by omega) (by omega) (run_l tabOk ?_); conv => whnf) | (refine wl_sub rfl rfl rfl rfl rfl rfl (by omega) (by omega) (run_l tabOk ?_); conv => whnf) | (refine wl_cvA tabOk rfl rfl rfl (by simp only [inK]; omega) rfl rfl rfl (run_l tabOk ?_); conv => whnf) | (refine wl_cvB tabOk rfl rfl rfl rfl rfl rfl (run_l tabOk ?_); conv => whnf) | (refine wl_rem rfl rfl rfl rfl rfl rfl (by omega) (by omega) (fun r hr hr0 hr1 hr2 => run_l tabOk ?_); conv => whnf) | (refine wl_quo rfl rfl rfl rfl rfl rfl (by omega) (by omega) (by simp only [inK]; omega) (run_l tabOk ?_); conv => whnf) | (refine wl_mul rfl rfl rfl rfl rfl rfl (by omega) (by omega) (run_l tabOk ?_); conv => whnf) | (refine gs_dt (by first | assumption | omega) ?_; conv => whnf) | (refine gs_df (by first | assumption | omega) ?_; conv => whnf) | (refine gs_t (by assumption) ?_; conv => whnf) | (refine gs_f (by assumption) ?_; conv => whnf) | (refine gs_d (fun hg => ?_) (fun hg => ?_) <;> conv => whnf) | (refine gs_n (fun hg => ?_) (fun hg => ?_) <;> conv => whnf) | (refine gs_nb (fun hg => ?_) (fun hg => ?_) <;> conv => whnf) | (refine gs_b (fun hg => ?_) (fun hg => ?_) <;> conv => whnf) | refine fin1 rfl rfl ?_))
        exact ⟨v + 1, ⟨rfl, rfl, rfl, rfl, rfl, trivial⟩, ⟨by omega, hB, _, _, _, _, _, _, hG, hT, fun j => (hout j).1, fun j => (hout j).2⟩, by omega⟩
      · (repeat' (first | (refine wl_L tabOk rfl rfl rfl rfl rfl rfl hrow (run_l tabOk ?_); conv => whnf) | (refine wl_Xn tabOk 24 1 rfl rfl rfl rfl rfl rfl rfl (by omega) (run_l tabOk ?_); conv => whnf) | (refine wl_add rfl rfl rfl rfl rfl rfl (by omega) (by omega) (run_l tabOk ?_); conv => whnf) | (refine wl_sub rfl rfl rfl rfl rfl rfl (by omega) (by omega) (run_l tabOk ?_); conv => whnf) | (refine wl_cvA tabOk rfl rfl rfl (by simp only [inK]; omega) rfl rfl rfl (run_l tabOk ?_); conv => whnf) | (refine wl_cvB tabOk rfl rfl rfl rfl rfl rfl (run_l tabOk ?_); conv => whnf) | (refine wl_rem rfl rfl rfl rfl rfl rfl (by omega) (by omega) (fun r hr hr0 hr1 hr2 => run_l tabOk ?_); conv => whnf) | (refine wl_quo rfl rfl rfl rfl rfl rfl (by omega) (by omega) (by simp only [inK]; omega) (run_l tabOk ?_); conv => whnf) | (refine wl_mul rfl rfl rfl rfl rfl rfl (by omega) (by omega) (run_l tabOk ?_); conv => whnf) | (refine gs_dt (by first | assumption | omega) ?_; conv => whnf) | (refine gs_df (by first | assumption | omega) ?_; conv => whnf) | (refine gs_t (by assumption) ?_; conv => whnf) | (refine gs_f (by assumption) ?_; conv => whnf) | (refine gs_d (fun hg => ?_) (fun hg => ?_) <;> conv => whnf) | (refine gs_n (fun hg => ?_) (fun hg => ?_) <;> conv => whnf) | (refine gs_nb (fun hg => ?_) (fun hg => ?_) <;> conv => whnf) | (refine gs_b (fun hg => ?_) (fun hg => ?_) <;> conv => whnf) | refine fin1 rfl rfl ?_))
        exact ⟨v + 1, ⟨rfl, rfl, rfl, rfl, rfl, trivial⟩, ⟨by omega, hB, _, _, _, _, _, _, hG, hT, fun j => (hout j).1, fun j => (hout j).2⟩, by omega⟩
  · (repeat' (first | (refine wl_add rfl rfl rfl rfl rfl rfl (by omega) (by omega) (run_l tabOk ?_); conv => whnf) | (refine wl_sub rfl rfl rfl rfl rfl rfl (by omega) (by omega) (run_l tabOk ?_); conv => whnf) | (refine wl_cvA tabOk rfl rfl rfl (by simp only [inK]; omega) rfl rfl rfl (run_l tabOk ?_); conv => whnf) | (refine wl_cvB tabOk rfl rfl rfl rfl rfl rfl (run_l tabOk ?_); conv => whnf) | (refine wl_rem rfl rfl rfl rfl rfl rfl (by omega) (by omega) (fun r hr hr0 hr1 hr2 => run_l tabOk ?_); conv => whnf) | (refine wl_quo rfl rfl rfl rfl rfl rfl (by omega) (by omega) (by simp only [inK]; omega) (run_l tabOk ?_); conv => whnf) | (refine wl_mul rfl rfl rfl rfl rfl rfl (by omega) (by omega) (run_l tabOk ?_); conv => whnf) | (refine gs_dt (by first | assumption | omega) ?_; conv => whnf) | (refine gs_df (by first | assumption | omega) ?_; conv => whnf) | (refine gs_t (by assumption) ?_; conv => whnf) | (refine gs_f (by assumption) ?_; conv => whnf) | (refine gs_d (fun hg => ?_) (fun hg => ?_) <;> conv => whnf) | (refine gs_n (fun hg => ?_) (fun hg => ?_) <;> conv => whnf) | (refine gs_nb (fun hg => ?_) (fun hg => ?_) <;> conv => whnf) | (refine gs_b (fun hg => ?_) (fun hg => ?_) <;> conv => whnf) | refine fin1 rfl rfl ?_))
    have hla := gF_len n f1
    have hlb := gF_len n f2
    have hfa := kFind (gF n f1) (some ⟨g1, 0, none⟩) n wr (hG.m1.rows (by omega)) (by omega)
    rw [hla] at hfa
    refine wl_C fn13 hfa rfl rfl rfl rfl rfl rfl rfl ?_
    rintro _ w5 ⟨⟨kn, of, Ak, ck, go, rfl, hK, hrk, hcn, hof⟩, hB5⟩
    refine ⟨_, rfl, run_l tabOk ?_⟩
    rw [hla] at hof ⊢
    conv => whnf
    (repeat' (first | (refine wl_add rfl rfl rfl rfl rfl rfl (by omega) (by omega) (run_l tabOk ?_); conv => whnf) | (refine wl_sub rfl rfl rfl rfl rfl rfl (by omega) (by omega) (run_l tabOk ?_); conv => whnf) | (refine wl_cvA tabOk rfl rfl rfl (by simp only [inK]; omega) rfl rfl rfl (run_l tabOk ?_); conv => whnf) | (refine wl_cvB tabOk rfl rfl rfl rfl rfl rfl (run_l tabOk ?_); conv => whnf) | (refine wl_rem rfl rfl rfl rfl rfl rfl (by omega) (by omega) (fun r hr hr0 hr1 hr2 => run_l tabOk ?_); conv => whnf) | (refine wl_quo rfl rfl rfl rfl rfl rfl (by omega) (by omega) (by simp only [inK]; omega) (run_l tabOk ?_); conv => whnf) | (refine wl_mul rfl rfl rfl rfl rfl rfl (by omega) (by omega) (run_l tabOk ?_); conv => whnf) | (refine gs_dt (by first | assumption | omega) ?_; conv => whnf) | (refine gs_df (by first | assumption | omega) ?_; conv => whnf) | (refine gs_t (by assumption) ?_; conv => whnf) | (refine gs_f (by assumption) ?_; conv => whnf) | (refine gs_d (fun hg => ?_) (fun hg => ?_) <;> conv => whnf) | (refine gs_n (fun hg => ?_) (fun hg => ?_) <;> conv => whnf) | (refine gs_nb (fun hg => ?_) (fun hg => ?_) <;> conv => whnf) | (refine gs_b (fun hg => ?_) (fun hg => ?_) <;> conv => whnf) | refine fin1 rfl rfl ?_))
    have hfb := kFind (gF n f2) (some ⟨g2, 0, none⟩) n w5 ((hG.below hB5).m2.rows (by omega)) (by omega)
    rw [hlb] at hfb
    refine wl_C fn13 hfb rfl rfl rfl rfl rfl rfl rfl ?_
    rintro _ w6 ⟨⟨kn2, of2, Ak2, ck2, go2, rfl, hK2, hrk2, hcn2, hof2⟩, hB6⟩
    refine ⟨_, rfl, run_l tabOk ?_⟩
    have hsame : ∀ a b, a < n → b < n → (of a = of b ↔ of2 a = of2 b) := fun a b ha hb => by
      rw [hK.scc a b (by omega) (by omega), hK2.scc a b (by omega) (by omega), hT.rg, hT.rg]
      exact And.comm
    have hlen := hK.len_eq hK2 (by omega) (fun a b ha hb => hsame a b (by omega) (by omega))
    rw [hlb] at hof2 ⊢
    rw [← hlen]
    conv => whnf
    (repeat' (first | (refine wl_add rfl rfl rfl rfl rfl rfl (by omega) (by omega) (run_l tabOk ?_); conv => whnf) | (refine wl_sub rfl rfl rfl rfl rfl rfl (by omega) (by omega) (run_l tabOk ?_); conv => whnf) | (refine wl_cvA tabOk rfl rfl rfl (by simp only [inK]; omega) rfl rfl rfl (run_l tabOk ?_); conv => whnf) | (refine wl_cvB tabOk rfl rfl rfl rfl rfl rfl (run_l tabOk ?_); conv => whnf) | (refine wl_rem rfl rfl rfl rfl rfl rfl (by omega) (by omega) (fun r hr hr0 hr1 hr2 => run_l tabOk ?_); conv => whnf) | (refine wl_quo rfl rfl rfl rfl rfl rfl (by omega) (by omega) (by simp only [inK]; omega) (run_l tabOk ?_); conv => whnf) | (refine wl_mul rfl rfl rfl rfl rfl rfl (by omega) (by omega) (run_l tabOk ?_); conv => whnf) | (refine gs_dt (by first | assumption | omega) ?_; conv => whnf) | (refine gs_df (by first | assumption | omega) ?_; conv => whnf) | (refine gs_t (by assumption) ?_; conv => whnf) | (refine gs_f (by assumption) ?_; conv => whnf) | (refine gs_d (fun hg => ?_) (fun hg => ?_) <;> conv => whnf) | (refine gs_n (fun hg => ?_) (fun hg => ?_) <;> conv => whnf) | (refine gs_nb (fun hg => ?_) (fun hg => ?_) <;> conv => whnf) | (refine gs_b (fun hg => ?_) (fun hg => ?_) <;> conv => whnf) | refine fin1 rfl rfl ?_))
    have hof := hof.up (stays_I _) hB6
    have hBw := bup (bup hB hB5) hB6
    refine lp_loop tabOk (X := Nat) (fun a => [(3, .int .i64 (n : Int)), (10, .slice (some ⟨go, 0, none⟩) n n), (12, .slice (some ⟨go2, 0, none⟩) n n), (13, .int .i64 (a : Int))]) (fun a wr => a ≤ n ∧ Below w6.heap.size w6 wr) (fun a => n - a) 0 ⟨rfl, rfl, rfl, rfl, trivial⟩ ⟨by omega, Below.refl _ _⟩ ?_
    rintro a G4 wa ⟨ha, hBa⟩
    conv => whnf
    by_cases han : a < n
    · (repeat' (first | (refine wl_add rfl rfl rfl rfl rfl rfl (by omega) (by omega) (run_l tabOk ?_); conv => whnf) | (refine wl_sub rfl rfl rfl rfl rfl rfl (by omega) (by omega) (run_l tabOk ?_); conv => whnf) | (refine wl_cvA tabOk rfl rfl rfl (by simp only [inK]; omega) rfl rfl rfl (run_l tabOk ?_); conv => whnf) | (refine wl_cvB tabOk rfl rfl rfl rfl rfl rfl (run_l tabOk ?_); conv => whnf) | (refine wl_rem rfl rfl rfl rfl rfl rfl (by omega) (by omega) (fun r hr hr0 hr1 hr2 => run_l tabOk ?_); conv => whnf) | (refine wl_quo rfl rfl rfl rfl rfl rfl (by omega) (by omega) (by simp only [inK]; omega) (run_l tabOk ?_); conv => whnf) | (refine wl_mul rfl rfl rfl rfl rfl rfl (by omega) (by omega) (run_l tabOk ?_); conv => whnf) | (refine gs_dt (by first | assumption | omega) ?_; conv => whnf) | (refine gs_df (by first | assumption | omega) ?_; conv => whnf) | (refine gs_t (by assumption) ?_; conv => whnf) | (refine gs_f (by assumption) ?_; conv => whnf) | (refine gs_d (fun hg => ?_) (fun hg => ?_) <;> conv => whnf) | (refine gs_n (fun hg => ?_) (fun hg => ?_) <;> conv => whnf) | (refine gs_nb (fun hg => ?_) (fun hg => ?_) <;> conv => whnf) | (refine gs_b (fun hg => ?_) (fun hg => ?_) <;> conv => whnf) | refine fin1 rfl rfl ?_))
      refine lp_loop tabOk (X := Nat) (fun b => [(3, .int .i64 (n : Int)), (10, .slice (some ⟨go, 0, none⟩) n n), (12, .slice (some ⟨go2, 0, none⟩) n n), (13, .int .i64 (a : Int)), (14, .int .i64 (b : Int))]) (fun b wr => b ≤ n ∧ Below w6.heap.size w6 wr) (fun b => n - b) 0 ⟨rfl, rfl, rfl, rfl, rfl, trivial⟩ ⟨by omega, hBa⟩ ?_
      rintro b G5 wb ⟨hb, hBb⟩
      conv => whnf
      by_cases hbn : b < n
      · (repeat' (first | (refine wl_add rfl rfl rfl rfl rfl rfl (by omega) (by omega) (run_l tabOk ?_); conv => whnf) | (refine wl_sub rfl rfl rfl rfl rfl rfl (by omega) (by omega) (run_l tabOk ?_); conv => whnf) | (refine wl_cvA tabOk rfl rfl rfl (by simp only [inK]; omega) rfl rfl rfl (run_l tabOk ?_); conv => whnf) | (refine wl_cvB tabOk rfl rfl rfl rfl rfl rfl (run_l tabOk ?_); conv => whnf) | (refine wl_rem rfl rfl rfl rfl rfl rfl (by omega) (by omega) (fun r hr hr0 hr1 hr2 => run_l tabOk ?_); conv => whnf) | (refine wl_quo rfl rfl rfl rfl rfl rfl (by omega) (by omega) (by simp only [inK]; omega) (run_l tabOk ?_); conv => whnf) | (refine wl_mul rfl rfl rfl rfl rfl rfl (by omega) (by omega) (run_l tabOk ?_); conv => whnf) | (refine gs_dt (by first | assumption | omega) ?_; conv => whnf) | (refine gs_df (by first | assumption | omega) ?_; conv => whnf) | (refine gs_t (by assumption) ?_; conv => whnf) | (refine gs_f (by assumption) ?_; conv => whnf) | (refine gs_d (fun hg => ?_) (fun hg => ?_) <;> conv => whnf) | (refine gs_n (fun hg => ?_) (fun hg => ?_) <;> conv => whnf) | (refine gs_nb (fun hg => ?_) (fun hg => ?_) <;> conv => whnf) | (refine gs_b (fun hg => ?_) (fun hg => ?_) <;> conv => whnf) | refine fin1 rfl rfl ?_))
        have rd : ∀ (f : Nat → Nat) (gg j : Nat), RI w6 (some ⟨gg, 0, none⟩) (ofI n f) → j < n → wb.cell? ((⟨gg, 0, none⟩ : Addr).add (j * 1)) = some (.int .i64 (f j : Int)) := fun f gg j hr hj => by
          obtain ⟨z, ad3, ⟨hz3⟩, e3, hc4, _, _⟩ := intsE (hr.up (stays_I _) hBb) j (by rw [ofI_len]; exact hj)
          rw [ofI_at _ hj] at hz3
          subst hz3
          injection e3 with e3
          subst e3
          exact hc4
        have c1 := rd of go a hof han
        have c2 := rd of go b hof hbn
        have c3 := rd of2 go2 a hof2 han
        have c4 := rd of2 go2 b hof2 hbn
        refine wc_qr tabOk mixed (by kernel_rfl) ?_; conv => whnf
        (repeat' (first | (refine wq_L tabOk rfl rfl rfl rfl rfl rfl c1 (run_q tabOk ?_); conv => whnf) | (refine wq_L tabOk rfl rfl rfl rfl rfl rfl c2 (run_q tabOk ?_); conv => whnf) | (refine wq_L tabOk rfl rfl rfl rfl rfl rfl c3 (run_q tabOk ?_); conv => whnf) | (refine wq_L tabOk rfl rfl rfl rfl rfl rfl c4 (run_q tabOk ?_); conv => whnf) | (refine wq_Xn tabOk 3 1 rfl rfl rfl rfl rfl rfl rfl (by omega) (run_q tabOk ?_); conv => whnf) | (refine wq_add rfl rfl rfl rfl rfl rfl (by omega) (by omega) (run_q tabOk ?_); conv => whnf) | (refine wq_sub rfl rfl rfl rfl rfl rfl (by omega) (by omega) (run_q tabOk ?_); conv => whnf) | (refine wq_cvA tabOk rfl rfl rfl (by simp only [inK]; omega) rfl rfl rfl (run_q tabOk ?_); conv => whnf) | (refine wq_cvB tabOk rfl rfl rfl rfl rfl rfl (run_q tabOk ?_); conv => whnf) | (refine wq_rem rfl rfl rfl rfl rfl rfl (by omega) (by omega) (fun r hr hr0 hr1 hr2 => run_q tabOk ?_); conv => whnf) | (refine wq_quo rfl rfl rfl rfl rfl rfl (by omega) (by omega) (by simp only [inK]; omega) (run_q tabOk ?_); conv => whnf) | (refine wq_mul rfl rfl rfl rfl rfl rfl (by omega) (by omega) (run_q tabOk ?_); conv => whnf) | (refine gs_dt (by first | assumption | omega) ?_; conv => whnf) | (refine gs_df (by first | assumption | omega) ?_; conv => whnf) | (refine gs_t (by assumption) ?_; conv => whnf) | (refine gs_f (by assumption) ?_; conv => whnf) | (refine gs_d (fun hg => ?_) (fun hg => ?_) <;> conv => whnf) | (refine gs_n (fun hg => ?_) (fun hg => ?_) <;> conv => whnf) | (refine gs_nb (fun hg => ?_) (fun hg => ?_) <;> conv => whnf) | (refine gs_b (fun hg => ?_) (fun hg => ?_) <;> conv => whnf)))
        intro w8 hB8
        conv => whnf
        have hq : ((of a : Int) = (of b : Int)) ↔ ((of2 a : Int) = (of2 b : Int)) := by
          have := hsame a b han hbn
          omega
        have hbe := same_dec hq
        rw [hbe]
        conv => whnf
        (repeat' (first | (refine wl_add rfl rfl rfl rfl rfl rfl (by omega) (by omega) (run_l tabOk ?_); conv => whnf) | (refine wl_sub rfl rfl rfl rfl rfl rfl (by omega) (by omega) (run_l tabOk ?_); conv => whnf) | (refine wl_cvA tabOk rfl rfl rfl (by simp only [inK]; omega) rfl rfl rfl (run_l tabOk ?_); conv => whnf) | (refine wl_cvB tabOk rfl rfl rfl rfl rfl rfl (run_l tabOk ?_); conv => whnf) | (refine wl_rem rfl rfl rfl rfl rfl rfl (by omega) (by omega) (fun r hr hr0 hr1 hr2 => run_l tabOk ?_); conv => whnf) | (refine wl_quo rfl rfl rfl rfl rfl rfl (by omega) (by omega) (by simp only [inK]; omega) (run_l tabOk ?_); conv => whnf) | (refine wl_mul rfl rfl rfl rfl rfl rfl (by omega) (by omega) (run_l tabOk ?_); conv => whnf) | (refine gs_dt (by first | assumption | omega) ?_; conv => whnf) | (refine gs_df (by first | assumption | omega) ?_; conv => whnf) | (refine gs_t (by assumption) ?_; conv => whnf) | (refine gs_f (by assumption) ?_; conv => whnf) | (refine gs_d (fun hg => ?_) (fun hg => ?_) <;> conv => whnf) | (refine gs_n (fun hg => ?_) (fun hg => ?_) <;> conv => whnf) | (refine gs_nb (fun hg => ?_) (fun hg => ?_) <;> conv => whnf) | (refine gs_b (fun hg => ?_) (fun hg => ?_) <;> conv => whnf) | refine fin1 rfl rfl ?_))
        exact ⟨b + 1, ⟨rfl, rfl, rfl, rfl, rfl, trivial⟩, ⟨hbn, bup hBb hB8⟩, by omega⟩
      · (repeat' (first | (refine wl_add rfl rfl rfl rfl rfl rfl (by omega) (by omega) (run_l tabOk ?_); conv => whnf) | (refine wl_sub rfl rfl rfl rfl rfl rfl (by omega) (by omega) (run_l tabOk ?_); conv => whnf) | (refine wl_cvA tabOk rfl rfl rfl (by simp only [inK]; omega) rfl rfl rfl (run_l tabOk ?_); conv => whnf) | (refine wl_cvB tabOk rfl rfl rfl rfl rfl rfl (run_l tabOk ?_); conv => whnf) | (refine wl_rem rfl rfl rfl rfl rfl rfl (by omega) (by omega) (fun r hr hr0 hr1 hr2 => run_l tabOk ?_); conv => whnf) | (refine wl_quo rfl rfl rfl rfl rfl rfl (by omega) (by omega) (by simp only [inK]; omega) (run_l tabOk ?_); conv => whnf) | (refine wl_mul rfl rfl rfl rfl rfl rfl (by omega) (by omega) (run_l tabOk ?_); conv => whnf) | (refine gs_dt (by first | assumption | omega) ?_; conv => whnf) | (refine gs_df (by first | assumption | omega) ?_; conv => whnf) | (refine gs_t (by assumption) ?_; conv => whnf) | (refine gs_f (by assumption) ?_; conv => whnf) | (refine gs_d (fun hg => ?_) (fun hg => ?_) <;> conv => whnf) | (refine gs_n (fun hg => ?_) (fun hg => ?_) <;> conv => whnf) | (refine gs_nb (fun hg => ?_) (fun hg => ?_) <;> conv => whnf) | (refine gs_b (fun hg => ?_) (fun hg => ?_) <;> conv => whnf) | refine fin1 rfl rfl ?_))
        exact ⟨a + 1, ⟨rfl, rfl, rfl, rfl, trivial⟩, ⟨han, hBb⟩, by omega⟩
    · (repeat' (first | (refine wl_add rfl rfl rfl rfl rfl rfl (by omega) (by omega) (run_l tabOk ?_); conv => whnf) | (refine wl_sub rfl rfl rfl rfl rfl rfl (by omega) (by omega) (run_l tabOk ?_); conv => whnf) | (refine wl_cvA tabOk rfl rfl rfl (by simp only [inK]; omega) rfl rfl rfl (run_l tabOk ?_); conv => whnf) | (refine wl_cvB tabOk rfl rfl rfl rfl rfl rfl (run_l tabOk ?_); conv => whnf) | (refine wl_rem rfl rfl rfl rfl rfl rfl (by omega) (by omega) (fun r hr hr0 hr1 hr2 => run_l tabOk ?_); conv => whnf) | (refine wl_quo rfl rfl rfl rfl rfl rfl (by omega) (by omega) (by simp only [inK]; omega) (run_l tabOk ?_); conv => whnf) | (refine wl_mul rfl rfl rfl rfl rfl rfl (by omega) (by omega) (run_l tabOk ?_); conv => whnf) | (refine gs_dt (by first | assumption | omega) ?_; conv => whnf) | (refine gs_df (by first | assumption | omega) ?_; conv => whnf) | (refine gs_t (by assumption) ?_; conv => whnf) | (refine gs_f (by assumption) ?_; conv => whnf) | (refine gs_d (fun hg => ?_) (fun hg => ?_) <;> conv => whnf) | (refine gs_n (fun hg => ?_) (fun hg => ?_) <;> conv => whnf) | (refine gs_nb (fun hg => ?_) (fun hg => ?_) <;> conv => whnf) | (refine gs_b (fun hg => ?_) (fun hg => ?_) <;> conv => whnf) | refine fin1 rfl rfl ?_))
      exact ⟨rfl, bup hBw hBa⟩
end Go.Proofs.Ytomldckplkecbaa
