/- pile: Of. Lists that rise. -/
import Derived.Test.YtkmnhkfgjadppaaDoorA03
import Derived.Test.YtkmnhkfgjadppaaDoorH05
namespace Go.Proofs.YtkmnhkfgjadppaaDoor
open Go.RowKit
set_option linter.unusedVariables false
set_option linter.unusedSimpArgs false
set_option maxRecDepth 100000
theorem up_eq : ∀ {xs ys : List Int}, xs.Pairwise (· < ·) → ys.Pairwise (· < ·) → (∀ x, x ∈ xs ↔ x ∈ ys) → xs = ys
  | [], [], _, _, _ => rfl
  | [], y :: ys, _, _, h => by have := (h y).2 (by simp); cases this
  | x :: xs, [], _, _, h => by have := (h x).1 (by simp); cases this
  | x :: xs, y :: ys, h1, h2, h => by
    have t1 : ∀ b ∈ xs, x < b := fun b hb => List.rel_of_pairwise_cons h1 hb
    have t2 : ∀ b ∈ ys, y < b := fun b hb => List.rel_of_pairwise_cons h2 hb
    have e : x = y := by
      rcases List.mem_cons.1 ((h x).1 (by simp)) with e | m1
      · exact e
      · rcases List.mem_cons.1 ((h y).2 (by simp)) with e | m2
        · exact e.symm
        · have := t2 x m1; have := t1 y m2; omega
    subst e
    rw [up_eq (List.Pairwise.of_cons h1) (List.Pairwise.of_cons h2) fun b => ⟨fun hb => ?_, fun hb => ?_⟩]
    · rcases List.mem_cons.1 ((h b).1 (by simp [hb])) with e | m
      · subst e; have := t1 b hb; omega
      · exact m
    · rcases List.mem_cons.1 ((h b).2 (by simp [hb])) with e | m
      · subst e; have := t2 b hb; omega
      · exact m
/-- A set of its own. -/
structure OwnS (w0 : World) (g : Nat) (w : World) (bs : List Blk) (fp : List Nat) : Prop where
  set : PSet w0.heap.size g w bs fp
  below : Below w0.heap.size w0 w
/-- An empty one is made. -/
theorem pset_new {w w1 : World} {g : Nat} (h : New w w1 g [.slice none 0 0] 27) : PSet w.heap.size g w1 [] [g] :=
  ⟨⟨.slice none 0 0, h.blk, own_nil .., rfl, by simp [Value.ownBlock]⟩, Nat.le_of_eq h.at_.symm, WFB.nil⟩
theorem OwnS.add {w0 w w' : World} {g : Nat} {bs bs' : List Blk} {fp fp' : List Nat} {n : Int} {e : Ending} (h : OwnS w0 g w bs fp) (r : AddR w0.heap.size g w bs fp n e w' bs' fp') : OwnS w0 g w' bs' fp' :=
  ⟨r.set, r.kept.below h.below h.below.size (fun k hk => (h.set.lt k hk).1)⟩
set_option maxHeartbeats 4000000 in
theorem pOf (l : List Int) (A : Option Addr) (c : Nat) (w : World) (h : RI w A l) (hl : l.length ≤ 1048576) :
    Calls Tryd.prog 15 #[.slice A l.length c] w fun e w' => ∃ g bs fp, e = .returned (.pointer (some ⟨g, 0, none⟩)) ∧ OwnS w g w' bs fp ∧ (∀ m : Nat, memB bs m = decide ((m : Int) ∈ l)) ∧ bs.length ≤ l.length := by
  refine enterR (args := [.slice A l.length c]) tabOk Tryd.func15 rfl Tryd.ntmps15 rfl ?_; conv => whnf
  (repeat' (first | (refine wl_add rfl rfl rfl rfl rfl rfl (by omega) (by omega) (run_l tabOk ?_); conv => whnf) | (refine wl_sub rfl rfl rfl rfl rfl rfl (by omega) (by omega) (run_l tabOk ?_); conv => whnf) | (refine wl_cvA tabOk rfl rfl rfl (by simp only [inK]; omega) rfl rfl rfl (run_l tabOk ?_); conv => whnf) | (refine wl_cvB tabOk rfl rfl rfl rfl rfl rfl (run_l tabOk ?_); conv => whnf) | (refine wl_rem rfl rfl rfl rfl rfl rfl (by omega) (by omega) (fun r hr hr0 hr1 hr2 => run_l tabOk ?_); conv => whnf) | (refine wl_quo rfl rfl rfl rfl rfl rfl (by omega) (by omega) (by simp only [inK]; omega) (run_l tabOk ?_); conv => whnf) | (refine wl_mul rfl rfl rfl rfl rfl rfl (by omega) (by omega) (run_l tabOk ?_); conv => whnf) | (refine gs_dt (by first | assumption | omega) ?_; conv => whnf) | (refine gs_df (by first | assumption | omega) ?_; conv => whnf) | (refine gs_t (by assumption) ?_; conv => whnf) | (refine gs_f (by assumption) ?_; conv => whnf) | (refine gs_d (fun hg => ?_) (fun hg => ?_) <;> conv => whnf) | (refine gs_n (fun hg => ?_) (fun hg => ?_) <;> conv => whnf) | (refine gs_nb (fun hg => ?_) (fun hg => ?_) <;> conv => whnf) | (refine gs_b (fun hg => ?_) (fun hg => ?_) <;> conv => whnf) | refine fin1 rfl rfl ?_))
  refine wl_box rfl rfl rfl rfl rfl rfl ?_
  intro g w1 hn1
  refine run_l tabOk ?_
  conv => whnf
  (repeat' (first | (refine wl_add rfl rfl rfl rfl rfl rfl (by omega) (by omega) (run_l tabOk ?_); conv => whnf) | (refine wl_sub rfl rfl rfl rfl rfl rfl (by omega) (by omega) (run_l tabOk ?_); conv => whnf) | (refine wl_cvA tabOk rfl rfl rfl (by simp only [inK]; omega) rfl rfl rfl (run_l tabOk ?_); conv => whnf) | (refine wl_cvB tabOk rfl rfl rfl rfl rfl rfl (run_l tabOk ?_); conv => whnf) | (refine wl_rem rfl rfl rfl rfl rfl rfl (by omega) (by omega) (fun r hr hr0 hr1 hr2 => run_l tabOk ?_); conv => whnf) | (refine wl_quo rfl rfl rfl rfl rfl rfl (by omega) (by omega) (by simp only [inK]; omega) (run_l tabOk ?_); conv => whnf) | (refine wl_mul rfl rfl rfl rfl rfl rfl (by omega) (by omega) (run_l tabOk ?_); conv => whnf) | (refine gs_dt (by first | assumption | omega) ?_; conv => whnf) | (refine gs_df (by first | assumption | omega) ?_; conv => whnf) | (refine gs_t (by assumption) ?_; conv => whnf) | (refine gs_f (by assumption) ?_; conv => whnf) | (refine gs_d (fun hg => ?_) (fun hg => ?_) <;> conv => whnf) | (refine gs_n (fun hg => ?_) (fun hg => ?_) <;> conv => whnf) | (refine gs_nb (fun hg => ?_) (fun hg => ?_) <;> conv => whnf) | (refine gs_b (fun hg => ?_) (fun hg => ?_) <;> conv => whnf) | refine fin1 rfl rfl ?_))
  refine lp_loop tabOk (X := Nat) (fun i => [(3, .pointer (some ⟨g, 0, none⟩)), (8, .slice A l.length c), (9, .int .i64 l.length), (10, .int .i64 i)])
    (fun i wr => i ≤ l.length ∧ ∃ bs fp, OwnS w g wr bs fp ∧ (∀ m : Nat, memB bs m = decide ((m : Int) ∈ l.take i)) ∧ bs.length ≤ i) (fun i => l.length - i) 0 ⟨rfl, rfl, rfl, rfl, trivial⟩ ⟨by omega, [], [g], ⟨pset_new hn1, hn1.below⟩, by simp [memB_nil], by simp⟩ ?_
  intro i G wr ⟨hi, bs, fp, hO, hm, hbl⟩
  conv => whnf
  by_cases hlt : i < l.length
  · obtain ⟨o, ad, ho, rfl, f0, ho1, ho2⟩ := intsE (h.up (stays_I _) hO.below) i hlt
    (repeat' (first | (refine wl_L tabOk rfl rfl rfl rfl rfl rfl f0 (run_l tabOk ?_); conv => whnf) | (refine wl_Xn tabOk 3 1 rfl rfl rfl rfl rfl rfl rfl (by omega) (run_l tabOk ?_); conv => whnf) | (refine wl_add rfl rfl rfl rfl rfl rfl (by omega) (by omega) (run_l tabOk ?_); conv => whnf) | (refine wl_sub rfl rfl rfl rfl rfl rfl (by omega) (by omega) (run_l tabOk ?_); conv => whnf) | (refine wl_cvA tabOk rfl rfl rfl (by simp only [inK]; omega) rfl rfl rfl (run_l tabOk ?_); conv => whnf) | (refine wl_cvB tabOk rfl rfl rfl rfl rfl rfl (run_l tabOk ?_); conv => whnf) | (refine wl_rem rfl rfl rfl rfl rfl rfl (by omega) (by omega) (fun r hr hr0 hr1 hr2 => run_l tabOk ?_); conv => whnf) | (refine wl_quo rfl rfl rfl rfl rfl rfl (by omega) (by omega) (by simp only [inK]; omega) (run_l tabOk ?_); conv => whnf) | (refine wl_mul rfl rfl rfl rfl rfl rfl (by omega) (by omega) (run_l tabOk ?_); conv => whnf) | (refine gs_dt (by first | assumption | omega) ?_; conv => whnf) | (refine gs_df (by first | assumption | omega) ?_; conv => whnf) | (refine gs_t (by assumption) ?_; conv => whnf) | (refine gs_f (by assumption) ?_; conv => whnf) | (refine gs_d (fun hg => ?_) (fun hg => ?_) <;> conv => whnf) | (refine gs_n (fun hg => ?_) (fun hg => ?_) <;> conv => whnf) | (refine gs_nb (fun hg => ?_) (fun hg => ?_) <;> conv => whnf) | (refine gs_b (fun hg => ?_) (fun hg => ?_) <;> conv => whnf) | refine fin1 rfl rfl ?_))
    refine wl_C fn12 (pAdd hO.set o ho2 (by omega) hO.below.size) rfl rfl rfl rfl rfl rfl rfl ?_
    rintro _ w2 ⟨bs', fp', r⟩
    refine ⟨_, r.ret, run_l tabOk ?_⟩
    conv => whnf
    (repeat' (first | (refine wl_add rfl rfl rfl rfl rfl rfl (by omega) (by omega) (run_l tabOk ?_); conv => whnf) | (refine wl_sub rfl rfl rfl rfl rfl rfl (by omega) (by omega) (run_l tabOk ?_); conv => whnf) | (refine wl_cvA tabOk rfl rfl rfl (by simp only [inK]; omega) rfl rfl rfl (run_l tabOk ?_); conv => whnf) | (refine wl_cvB tabOk rfl rfl rfl rfl rfl rfl (run_l tabOk ?_); conv => whnf) | (refine wl_rem rfl rfl rfl rfl rfl rfl (by omega) (by omega) (fun r hr hr0 hr1 hr2 => run_l tabOk ?_); conv => whnf) | (refine wl_quo rfl rfl rfl rfl rfl rfl (by omega) (by omega) (by simp only [inK]; omega) (run_l tabOk ?_); conv => whnf) | (refine wl_mul rfl rfl rfl rfl rfl rfl (by omega) (by omega) (run_l tabOk ?_); conv => whnf) | (refine gs_dt (by first | assumption | omega) ?_; conv => whnf) | (refine gs_df (by first | assumption | omega) ?_; conv => whnf) | (refine gs_t (by assumption) ?_; conv => whnf) | (refine gs_f (by assumption) ?_; conv => whnf) | (refine gs_d (fun hg => ?_) (fun hg => ?_) <;> conv => whnf) | (refine gs_n (fun hg => ?_) (fun hg => ?_) <;> conv => whnf) | (refine gs_nb (fun hg => ?_) (fun hg => ?_) <;> conv => whnf) | (refine gs_b (fun hg => ?_) (fun hg => ?_) <;> conv => whnf) | refine fin1 rfl rfl ?_))
    refine ⟨i + 1, ⟨rfl, rfl, rfl, rfl, trivial⟩, ⟨by omega, bs', fp', hO.add r, fun m => ?_, by have := r.len; omega⟩, by omega⟩
    rw [r.mem, hm, take_next hlt, ho.out]
    simp [Bool.decide_or, eq_comm]
  · (repeat' (first | (refine wl_add rfl rfl rfl rfl rfl rfl (by omega) (by omega) (run_l tabOk ?_); conv => whnf) | (refine wl_sub rfl rfl rfl rfl rfl rfl (by omega) (by omega) (run_l tabOk ?_); conv => whnf) | (refine wl_cvA tabOk rfl rfl rfl (by simp only [inK]; omega) rfl rfl rfl (run_l tabOk ?_); conv => whnf) | (refine wl_cvB tabOk rfl rfl rfl rfl rfl rfl (run_l tabOk ?_); conv => whnf) | (refine wl_rem rfl rfl rfl rfl rfl rfl (by omega) (by omega) (fun r hr hr0 hr1 hr2 => run_l tabOk ?_); conv => whnf) | (refine wl_quo rfl rfl rfl rfl rfl rfl (by omega) (by omega) (by simp only [inK]; omega) (run_l tabOk ?_); conv => whnf) | (refine wl_mul rfl rfl rfl rfl rfl rfl (by omega) (by omega) (run_l tabOk ?_); conv => whnf) | (refine gs_dt (by first | assumption | omega) ?_; conv => whnf) | (refine gs_df (by first | assumption | omega) ?_; conv => whnf) | (refine gs_t (by assumption) ?_; conv => whnf) | (refine gs_f (by assumption) ?_; conv => whnf) | (refine gs_d (fun hg => ?_) (fun hg => ?_) <;> conv => whnf) | (refine gs_n (fun hg => ?_) (fun hg => ?_) <;> conv => whnf) | (refine gs_nb (fun hg => ?_) (fun hg => ?_) <;> conv => whnf) | (refine gs_b (fun hg => ?_) (fun hg => ?_) <;> conv => whnf) | refine fin1 rfl rfl ?_))
    refine ⟨g, bs, fp, rfl, hO, fun m => ?_, by omega⟩
    rw [hm, List.take_of_length_le (by omega)]
/-- The numbers of a set, where it is known what is in it. -/
theorem numsB_is {bs : List Blk} (hw : WFB bs) {l : List Int} (hl : l.Pairwise (· < ·)) (h0 : ∀ x ∈ l, 0 ≤ x) (h : ∀ m : Nat, memB bs m = decide ((m : Int) ∈ l)) : numsB bs = l := by
  refine up_eq (numsB_up hw.up) hl fun x => ?_
  rw [mem_numsB hw, h]
  constructor
  · rintro ⟨h1, h2⟩
    have h2 : ((x.toNat : Nat) : Int) ∈ l := by simpa using h2
    rwa [show ((x.toNat : Nat) : Int) = x by omega] at h2
  · intro hx
    refine ⟨h0 x hx, ?_⟩
    rw [show ((x.toNat : Nat) : Int) = x by have := h0 x hx; omega]
    simpa using hx
end Go.Proofs.YtkmnhkfgjadppaaDoor
