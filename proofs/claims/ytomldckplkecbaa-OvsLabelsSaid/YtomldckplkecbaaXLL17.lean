/- The walk of OvsLabels. -/
import Derived.Test.YtomldckplkecbaaXPL17
import Derived.Test.YtomldckplkecbaaXSB12
namespace Go.Proofs.Ytomldckplkecbaa
open Go.RowKit
set_option linter.unusedVariables false
set_option linter.unusedSimpArgs false
set_option maxRecDepth 100000
/-- A row of truths: which objects are among some. -/
def oB (nc : Nat) (W : List Int) : List Bool := (List.range nc).map fun (o : Nat) => decide ((o : Int) ∈ W)
theorem oB_len (nc : Nat) (W : List Int) : (oB nc W).length = nc := by simp [oB]
theorem oB_at {nc o : Nat} (W : List Int) (h : o < nc) : (oB nc W)[o]! = decide ((o : Int) ∈ W) := by
  rw [getElem!_pos _ o (by rw [oB_len]; exact h)]
  simp [oB]
theorem oB_add {nc o : Nat} (W : List Int) (h : o < nc) : (oB nc W).set o true = oB nc (addI W o) := by
  apply List.ext_getElem (by simp [oB_len])
  intro i h1 h2
  rw [List.getElem_set]
  simp only [oB, List.getElem_map, List.getElem_range]
  by_cases e : o = i
  · subst e
    rw [if_pos rfl]
    exact (decide_eq_true (addI_mem.2 (.inr rfl))).symm
  · rw [if_neg e]
    congr 1
    refine propext ⟨fun h => addI_mem.2 (.inl h), fun h => ?_⟩
    rcases addI_mem.1 h with h | h
    · exact h
    · omega
theorem oB_nil (nc : Nat) : (List.replicate nc [Value.bool false]).flatten = vb (oB nc []) := by
  have e : oB nc [] = List.replicate nc false := by
    apply List.ext_getElem (by simp [oB])
    intro i h1 h2
    simp [oB]
  rw [e]
  simp [vb]
theorem addI_len {W : List Int} {y : Int} (h : y ∉ W) : (addI W y).length = W.length + 1 := by unfold addI; rw [if_neg h]; simp
theorem addI_in {W : List Int} {y : Int} (h : y ∈ W) : addI W y = W := if_pos h
/-- What the law keeps of a knot: which objects are in it, and which labels come into it. -/
structure OS (B : Nat) (w0 w : World) (gO nc : Nat) (W : List Int) (v : Value) (S : List Int) : Prop where
  below : Below w0.heap.size w0 w
  ge : B ≤ w.heap.size
  own : w.heap[gO]? = some (.cells (vb (oB nc W)).toArray 4 (0, 0))
  row : GInts B w v S
theorem OS.up {B : Nat} {w0 w w1 : World} {gO nc : Nat} {W S : List Int} {v : Value} (h : OS B w0 w gO nc W v S) (hb : Below w.heap.size w w1) : OS B w0 w1 gO nc W v S := ⟨bup h.below hb, by have := h.ge; have := hb.size; omega, blk_up hb h.own, h.row.below hb⟩
theorem OS.put {B : Nat} {w0 w w1 : World} {gO nc o : Nat} {W S : List Int} {v : Value} (h : OS B w0 w gO nc W v S) (ho : o < nc) (hg : w0.heap.size ≤ gO) (hgB : gO < B) (hp : Put w w1 gO ((vb (oB nc W)).set o (.bool true)) 4) : OS B w0 w1 gO nc (addI W o) v S := by
  have e : (vb (oB nc W)).set o (.bool true) = vb (oB nc (addI W o)) := by rw [← oB_add W ho]; simp [vb, List.map_set]
  rw [e] at hp
  refine ⟨hp.below h.below hg h.below.size, by rw [hp.size]; exact h.ge, hp.blk, h.row.other hp.grown (by simp) fun k hk e => ?_⟩
  have := (h.row.olt k hk).1
  omega
theorem OS.push {B : Nat} {w0 w w1 : World} {gO nc : Nat} {W S : List Int} {v v' : Value} {y : Int} (h : OS B w0 w gO nc W v S) (hgB : gO < B) (hB0 : w0.heap.size ≤ B) (hg : w.grownBy w1 v.ownBlock) (hr : GInts B w1 v' (S ++ [y])) : OS B w0 w1 gO nc W v' (S ++ [y]) :=
  ⟨h.below.grown hg h.below.size (fun k hk => by have := (h.row.olt k hk).1; omega), by have := h.ge; have := hg.size; omega, (hg.block gO (blk_lt h.own) (fun e => by have := (h.row.olt gO e.symm).1; omega)).trans h.own, hr⟩
theorem OS.cell {B : Nat} {w0 w : World} {gO nc : Nat} {W S : List Int} {v : Value} (h : OS B w0 w gO nc W v S) {o : Nat} (ho : o < nc) : w.cell? ((⟨gO, 0, none⟩ : Addr).add (o * 1)) = some (.bool (decide ((o : Int) ∈ W))) := by
  rw [Nat.mul_one, add_zero]
  refine cell_blk h.own ?_
  have hl := oB_len nc W
  simp only [vb, List.getElem?_toArray, List.getElem?_map]
  rw [List.getElem?_eq_getElem (by rw [hl]; exact ho), ← oB_at W ho, getElem!_pos _ o (by rw [hl]; exact ho)]
  rfl
theorem toNat0 {b : Bool} (h : b.toNat = 0) : b = false := by cases b <;> simp_all
theorem toNat1 {b : Bool} (h : 0 < b.toNat) : b = true := by cases b <;> simp_all
/-- Labels in their range, each once. -/
def SP2 (b : Nat) (S : List Int) : Prop := S.Nodup ∧ ∀ x ∈ S, 0 ≤ x ∧ x < (b : Int)
theorem SP2.inX {b n : Nat} {of : Nat → Nat} {l : Nat → Int} {k : Nat} {S : List Int} {x : Int} (hl : ∀ u, u < n → l u < (b : Int)) (h : SP2 b S) : SP2 b (inX n of l k S x) := by
  unfold Go.Proofs.Ytomldckplkecbaa.inX
  split
  · rename_i hc
    exact ⟨addI_nodup h.1 _, addI_all h.2 ⟨hc.2.2, hl _ hc.2.1⟩⟩
  · exact h
set_option maxHeartbeats 16000000 in
theorem lawOvsLabels (d : Draft) (A : Option Addr) (c : Nat) (w : World) (h : RActs w A d.acts) (hk : (0 ≤ d.vars ∧ d.vars ≤ 255) ∧ 0 ≤ d.cells ∧ d.cells ≤ 255) :
    Calls Try.prog 9 #[.agg #[.int .u8 d.vars, .int .u8 d.cells, .slice A d.acts.length c]] w fun e w' => e = .returned (.bool true) ∧ Below w.heap.size w w' := by
  refine enterR (args := [.agg #[.int .u8 d.vars, .int .u8 d.cells, .slice A d.acts.length c]]) tabOk Try.func9 rfl Try.ntmps9 rfl ?_; conv => whnf
  refine wl_box rfl rfl rfl rfl rfl rfl ?_
  intro g1 w1 hn1
  refine run_l tabOk ?_
  conv => whnf
  refine wl_C fn14 (awake17 _) rfl rfl rfl rfl rfl rfl rfl ?_
  rintro _ w2 ⟨rfl, hB2⟩
  have hb := blk_up hB2 hn1.blk
  have hB := bup hn1.below hB2
  refine ⟨_, rfl, run_l tabOk ?_⟩
  conv => whnf
  by_cases hbig : 40 < d.acts.length
  · (repeat' (first | (refine wl_Lg tabOk hb rfl rfl rfl rfl rfl rfl rfl (run_l tabOk ?_); conv => whnf) | (refine wl_add rfl rfl rfl rfl rfl rfl (by omega) (by omega) (run_l tabOk ?_); conv => whnf) | (refine wl_sub rfl rfl rfl rfl rfl rfl (by omega) (by omega) (run_l tabOk ?_); conv => whnf) | (refine wl_cvA tabOk rfl rfl rfl (by simp only [inK]; omega) rfl rfl rfl (run_l tabOk ?_); conv => whnf) | (refine wl_cvB tabOk rfl rfl rfl rfl rfl rfl (run_l tabOk ?_); conv => whnf) | (refine wl_rem rfl rfl rfl rfl rfl rfl (by omega) (by omega) (fun r hr hr0 hr1 hr2 => run_l tabOk ?_); conv => whnf) | (refine wl_quo rfl rfl rfl rfl rfl rfl (by omega) (by omega) (by simp only [inK]; omega) (run_l tabOk ?_); conv => whnf) | (refine wl_mul rfl rfl rfl rfl rfl rfl (by omega) (by omega) (run_l tabOk ?_); conv => whnf) | (refine gs_dt (by first | assumption | omega) ?_; conv => whnf) | (refine gs_df (by first | assumption | omega) ?_; conv => whnf) | (refine gs_t (by assumption) ?_; conv => whnf) | (refine gs_f (by assumption) ?_; conv => whnf) | (refine gs_d (fun hg => ?_) (fun hg => ?_) <;> conv => whnf) | (refine gs_n (fun hg => ?_) (fun hg => ?_) <;> conv => whnf) | (refine gs_nb (fun hg => ?_) (fun hg => ?_) <;> conv => whnf) | (refine gs_b (fun hg => ?_) (fun hg => ?_) <;> conv => whnf) | refine fin1 rfl rfl ?_))
    refine wl_C fn14 (awake17 _) rfl rfl rfl rfl rfl rfl rfl ?_
    rintro _ w3 ⟨rfl, hB3⟩
    refine ⟨_, rfl, run_l tabOk ?_⟩
    conv => whnf
    (repeat' (first | (refine wl_add rfl rfl rfl rfl rfl rfl (by omega) (by omega) (run_l tabOk ?_); conv => whnf) | (refine wl_sub rfl rfl rfl rfl rfl rfl (by omega) (by omega) (run_l tabOk ?_); conv => whnf) | (refine wl_cvA tabOk rfl rfl rfl (by simp only [inK]; omega) rfl rfl rfl (run_l tabOk ?_); conv => whnf) | (refine wl_cvB tabOk rfl rfl rfl rfl rfl rfl (run_l tabOk ?_); conv => whnf) | (refine wl_rem rfl rfl rfl rfl rfl rfl (by omega) (by omega) (fun r hr hr0 hr1 hr2 => run_l tabOk ?_); conv => whnf) | (refine wl_quo rfl rfl rfl rfl rfl rfl (by omega) (by omega) (by simp only [inK]; omega) (run_l tabOk ?_); conv => whnf) | (refine wl_mul rfl rfl rfl rfl rfl rfl (by omega) (by omega) (run_l tabOk ?_); conv => whnf) | (refine gs_dt (by first | assumption | omega) ?_; conv => whnf) | (refine gs_df (by first | assumption | omega) ?_; conv => whnf) | (refine gs_t (by assumption) ?_; conv => whnf) | (refine gs_f (by assumption) ?_; conv => whnf) | (refine gs_d (fun hg => ?_) (fun hg => ?_) <;> conv => whnf) | (refine gs_n (fun hg => ?_) (fun hg => ?_) <;> conv => whnf) | (refine gs_nb (fun hg => ?_) (fun hg => ?_) <;> conv => whnf) | (refine gs_b (fun hg => ?_) (fun hg => ?_) <;> conv => whnf) | refine fin1 rfl rfl ?_))
    exact ⟨rfl, bup hB hB3⟩
  (repeat' (first | (refine wl_Lg tabOk hb rfl rfl rfl rfl rfl rfl rfl (run_l tabOk ?_); conv => whnf) | (refine wl_Lag tabOk hb rfl rfl rfl rfl rfl rfl (run_l tabOk ?_); conv => whnf) | (refine wl_add rfl rfl rfl rfl rfl rfl (by omega) (by omega) (run_l tabOk ?_); conv => whnf) | (refine wl_sub rfl rfl rfl rfl rfl rfl (by omega) (by omega) (run_l tabOk ?_); conv => whnf) | (refine wl_cvA tabOk rfl rfl rfl (by simp only [inK]; omega) rfl rfl rfl (run_l tabOk ?_); conv => whnf) | (refine wl_cvB tabOk rfl rfl rfl rfl rfl rfl (run_l tabOk ?_); conv => whnf) | (refine wl_rem rfl rfl rfl rfl rfl rfl (by omega) (by omega) (fun r hr hr0 hr1 hr2 => run_l tabOk ?_); conv => whnf) | (refine wl_quo rfl rfl rfl rfl rfl rfl (by omega) (by omega) (by simp only [inK]; omega) (run_l tabOk ?_); conv => whnf) | (refine wl_mul rfl rfl rfl rfl rfl rfl (by omega) (by omega) (run_l tabOk ?_); conv => whnf) | (refine gs_dt (by first | assumption | omega) ?_; conv => whnf) | (refine gs_df (by first | assumption | omega) ?_; conv => whnf) | (refine gs_t (by assumption) ?_; conv => whnf) | (refine gs_f (by assumption) ?_; conv => whnf) | (refine gs_d (fun hg => ?_) (fun hg => ?_) <;> conv => whnf) | (refine gs_n (fun hg => ?_) (fun hg => ?_) <;> conv => whnf) | (refine gs_nb (fun hg => ?_) (fun hg => ?_) <;> conv => whnf) | (refine gs_b (fun hg => ?_) (fun hg => ?_) <;> conv => whnf) | refine fin1 rfl rfl ?_))
  refine wl_C fn15 (refMake d A c w2 (h.up stays_Act hB) hk.1 hk.2) rfl rfl rfl rfl rfl rfl rfl ?_
  rintro _ w3 ⟨s, va, vb', bs, cs, rfl, hB3, hM⟩
  have hright := hM.right
  have hvars := hM.vars
  have hnce := hM.ncells
  obtain ⟨A1, c1, rfl, _, hr1⟩ := hM.cells.row
  obtain ⟨A2, c2, rfl, _, hr2⟩ := hM.cons.row
  have hB03 := bup hB hB3
  clear hM hb hB2 hn1
  obtain ⟨vars, xs, ys⟩ := s
  simp only at hright hvars hr1 hr2 hnce
  obtain ⟨n, rfl⟩ : ∃ n : Nat, vars = n := ⟨vars.toNat, by omega⟩
  have hn12 : n ≤ 12 := by omega
  refine ⟨_, rfl, run_l tabOk ?_⟩
  conv => whnf
  refine wl_alloc tabOk rfl rfl rfl rfl rfl rfl ?_
  intro g3 w4 hn4
  refine run_l tabOk ?_
  conv => whnf
  refine wl_Sa tabOk hn4.blk rfl rfl rfl rfl rfl (by simp [Value.oneCell']) rfl rfl ?_
  intro w5 hp5
  have hB5 : Below w3.heap.size w3 w5 := hp5.below hn4.below (by have := hn4.at_; omega) (by have := hn4.size; omega)
  have hb3 : w5.heap[g3]? = some (.cells #[.int .i64 n, .slice A1 xs.length c1, .slice A2 ys.length c2] 41 (0, 0)) := hp5.blk
  have hr1 := hr1.up stays_Cell hB5
  have hr2 := hr2.up stays_Con hB5
  have hB05 := bup hB03 hB5
  clear hp5 hn4 hB03 hB5 hB3
  refine run_l tabOk ?_
  conv => whnf
  (repeat' (first | (refine wl_Lag tabOk hb3 rfl rfl rfl rfl rfl rfl (run_l tabOk ?_); conv => whnf) | (refine wl_add rfl rfl rfl rfl rfl rfl (by omega) (by omega) (run_l tabOk ?_); conv => whnf) | (refine wl_sub rfl rfl rfl rfl rfl rfl (by omega) (by omega) (run_l tabOk ?_); conv => whnf) | (refine wl_cvA tabOk rfl rfl rfl (by simp only [inK]; omega) rfl rfl rfl (run_l tabOk ?_); conv => whnf) | (refine wl_cvB tabOk rfl rfl rfl rfl rfl rfl (run_l tabOk ?_); conv => whnf) | (refine wl_rem rfl rfl rfl rfl rfl rfl (by omega) (by omega) (fun r hr hr0 hr1 hr2 => run_l tabOk ?_); conv => whnf) | (refine wl_quo rfl rfl rfl rfl rfl rfl (by omega) (by omega) (by simp only [inK]; omega) (run_l tabOk ?_); conv => whnf) | (refine wl_mul rfl rfl rfl rfl rfl rfl (by omega) (by omega) (run_l tabOk ?_); conv => whnf) | (refine gs_dt (by first | assumption | omega) ?_; conv => whnf) | (refine gs_df (by first | assumption | omega) ?_; conv => whnf) | (refine gs_t (by assumption) ?_; conv => whnf) | (refine gs_f (by assumption) ?_; conv => whnf) | (refine gs_d (fun hg => ?_) (fun hg => ?_) <;> conv => whnf) | (refine gs_n (fun hg => ?_) (fun hg => ?_) <;> conv => whnf) | (refine gs_nb (fun hg => ?_) (fun hg => ?_) <;> conv => whnf) | (refine gs_b (fun hg => ?_) (fun hg => ?_) <;> conv => whnf) | refine fin1 rfl rfl ?_))
  refine wl_C fn16 (graphOfR n xs ys A1 A2 c1 c2 w5 hr1 hr2 hright) rfl rfl rfl rfl rfl rfl rfl ?_
  rintro _ w6 ⟨A', B', C', rfl, k1, k2, k3, hB6⟩
  have hG : GOk n (gInto n xs ys) (gBases n xs ys) (gLoose n xs ys) := gok hright
  have hni : (gInto n xs ys).length = 2 * n := hG.ni
  have hnb : (gBases n xs ys).length = n := hG.nb
  have hnl : (gLoose n xs ys).length = 2 * n := hG.nl
  have hb3 := blk_up hB6 hb3
  refine ⟨_, rfl, run_l tabOk ?_⟩
  conv => whnf
  refine wl_alloc tabOk rfl rfl rfl rfl rfl rfl ?_
  intro g4 w7 hn7
  refine run_l tabOk ?_
  conv => whnf
  refine wl_Sa tabOk hn7.blk rfl rfl rfl rfl rfl (by simp [Value.oneCell']) rfl rfl ?_
  intro w8 hp8
  have hB8 : Below w6.heap.size w6 w8 := hp8.below hn7.below (by have := hn7.at_; omega) (by have := hn7.size; omega)
  have hb4 : w8.heap[g4]? = some (.cells #[.int .i64 n, .slice A' (2 * n) (2 * n), .slice B' n n, .slice C' (2 * n) (2 * n)] 44 (0, 0)) := hp8.blk
  have hb3 := blk_up hB8 hb3
  have k1 := k1.up stays_Ints hB8
  have k2 := k2.up stays_Ints hB8
  have k3 := k3.up stays_B hB8
  have hB68 := bup hB6 hB8
  have hr1 := hr1.up stays_Cell hB68
  have hr2 := hr2.up stays_Con hB68
  have hB08 := bup hB05 hB68
  clear hp8 hn7 hB6 hB8 hB68 hB05
  refine run_l tabOk ?_
  conv => whnf
  have hlab := oLabels n (gInto n xs ys) (gBases n xs ys) (gLoose n xs ys) A' B' C' (2 * n) n (2 * n) w8 hG k1 k2 k3
  rw [hni, hnb, hnl] at hlab
  (repeat' (first | (refine wl_Lag tabOk hb4 rfl rfl rfl rfl rfl rfl (run_l tabOk ?_); conv => whnf) | (refine wl_add rfl rfl rfl rfl rfl rfl (by omega) (by omega) (run_l tabOk ?_); conv => whnf) | (refine wl_sub rfl rfl rfl rfl rfl rfl (by omega) (by omega) (run_l tabOk ?_); conv => whnf) | (refine wl_cvA tabOk rfl rfl rfl (by simp only [inK]; omega) rfl rfl rfl (run_l tabOk ?_); conv => whnf) | (refine wl_cvB tabOk rfl rfl rfl rfl rfl rfl (run_l tabOk ?_); conv => whnf) | (refine wl_rem rfl rfl rfl rfl rfl rfl (by omega) (by omega) (fun r hr hr0 hr1 hr2 => run_l tabOk ?_); conv => whnf) | (refine wl_quo rfl rfl rfl rfl rfl rfl (by omega) (by omega) (by simp only [inK]; omega) (run_l tabOk ?_); conv => whnf) | (refine wl_mul rfl rfl rfl rfl rfl rfl (by omega) (by omega) (run_l tabOk ?_); conv => whnf) | (refine gs_dt (by first | assumption | omega) ?_; conv => whnf) | (refine gs_df (by first | assumption | omega) ?_; conv => whnf) | (refine gs_t (by assumption) ?_; conv => whnf) | (refine gs_f (by assumption) ?_; conv => whnf) | (refine gs_d (fun hg => ?_) (fun hg => ?_) <;> conv => whnf) | (refine gs_n (fun hg => ?_) (fun hg => ?_) <;> conv => whnf) | (refine gs_nb (fun hg => ?_) (fun hg => ?_) <;> conv => whnf) | (refine gs_b (fun hg => ?_) (fun hg => ?_) <;> conv => whnf) | refine fin1 rfl rfl ?_))
  refine wl_C fn17 hlab rfl rfl rfl rfl rfl rfl rfl ?_
  rintro _ w9 ⟨kn, of, go, hK, rfl, hR, hB9⟩
  have hLge : ∀ v, v < n → -1 ≤ gl n xs ys kn of v := fun v hv => ((labN_ok hG hK kn.length (Nat.le_refl _)).lab _ (hK.at_ v (by omega)).1).1
  have hlrow : ∀ v u, v < n → u < n → ((of v = of u) ↔ Rg (gInto n xs ys) v u ∧ Rg (gInto n xs ys) u v) := fun v u hv hu => hK.scc v u (by omega) (by omega)
  have hb3 := blk_up hB9 hb3
  have hb4 := blk_up hB9 hb4
  have hB09 := bup hB08 hB9
  refine ⟨_, rfl, run_l tabOk ?_⟩
  conv => whnf
  have hfi := kFind (gInto n xs ys) A' (2 * n) w9 (k1.up stays_Ints hB9) (by rw [hni]; omega)
  rw [hni] at hfi
  (repeat' (first | (refine wl_Lg tabOk hb4 rfl rfl rfl rfl rfl rfl rfl (run_l tabOk ?_); conv => whnf) | (refine wl_add rfl rfl rfl rfl rfl rfl (by omega) (by omega) (run_l tabOk ?_); conv => whnf) | (refine wl_sub rfl rfl rfl rfl rfl rfl (by omega) (by omega) (run_l tabOk ?_); conv => whnf) | (refine wl_cvA tabOk rfl rfl rfl (by simp only [inK]; omega) rfl rfl rfl (run_l tabOk ?_); conv => whnf) | (refine wl_cvB tabOk rfl rfl rfl rfl rfl rfl (run_l tabOk ?_); conv => whnf) | (refine wl_rem rfl rfl rfl rfl rfl rfl (by omega) (by omega) (fun r hr hr0 hr1 hr2 => run_l tabOk ?_); conv => whnf) | (refine wl_quo rfl rfl rfl rfl rfl rfl (by omega) (by omega) (by simp only [inK]; omega) (run_l tabOk ?_); conv => whnf) | (refine wl_mul rfl rfl rfl rfl rfl rfl (by omega) (by omega) (run_l tabOk ?_); conv => whnf) | (refine gs_dt (by first | assumption | omega) ?_; conv => whnf) | (refine gs_df (by first | assumption | omega) ?_; conv => whnf) | (refine gs_t (by assumption) ?_; conv => whnf) | (refine gs_f (by assumption) ?_; conv => whnf) | (refine gs_d (fun hg => ?_) (fun hg => ?_) <;> conv => whnf) | (refine gs_n (fun hg => ?_) (fun hg => ?_) <;> conv => whnf) | (refine gs_nb (fun hg => ?_) (fun hg => ?_) <;> conv => whnf) | (refine gs_b (fun hg => ?_) (fun hg => ?_) <;> conv => whnf) | refine fin1 rfl rfl ?_))
  refine wl_C fn13 hfi rfl rfl rfl rfl rfl rfl rfl ?_
  rintro _ w11 ⟨⟨kn2, of2, Ak, ck, go2, rfl, hK2, hrk, hckn, hof⟩, hB11⟩
  have hb3 := blk_up hB11 hb3
  have hb4 := blk_up hB11 hb4
  have hB011 := bup hB09 hB11
  have hB911 := bup hB9 hB11
  have k1 := k1.up stays_Ints hB911
  have k2 := k2.up stays_Ints hB911
  have k3 := k3.up stays_B hB911
  have rdo : ∀ (wb : World), Below w11.heap.size w11 wb → ∀ j, j < 2 * n → wb.cell? ((⟨go2, 0, none⟩ : Addr).add (j * 1)) = some (.int .i64 (of2 j : Int)) := fun wb hBb j hj => by
    obtain ⟨z, ad3, ⟨hz3⟩, e3, hc4, _, _⟩ := intsE (hof.up (stays_I _) hBb) j (by rw [ofI_len, hni]; omega)
    rw [ofI_at _ (by omega)] at hz3
    subst hz3
    injection e3 with e3
    subst e3
    exact hc4
  have rdl : ∀ (wb : World), Below w11.heap.size w11 wb → ∀ j, j < n → wb.cell? ((⟨go, 0, none⟩ : Addr).add (j * 1)) = some (.int .i64 (gl n xs ys kn of j)) := fun wb hBb j hj => by
    obtain ⟨z, ad3, ⟨hz3⟩, e3, hc4, _, _⟩ := intsE (hR.up (stays_I _) (bup hB11 hBb)) j (by simpa using hj)
    rw [getElem!_pos _ j (by simpa using hj)] at hz3
    simp at hz3
    subst hz3
    injection e3 with e3
    subst e3
    exact hc4
  have hrdL : ∀ (wb : World), Below w11.heap.size w11 wb → ∀ j, j < 2 * n → wb.cell? ((C'.getD default).add (j * 1)) = some (.bool (gLoose n xs ys)[j]!) ∧ C' = some (C'.getD default) := fun wb hBb j hj => by
    obtain ⟨x, ad, hx, e, hc⟩ := boolE (k3.up stays_B hBb) j (by rw [hnl]; exact hj)
    subst e
    rw [hx]
    exact ⟨hc, rfl⟩
  have hcn : ∀ q m : Nat, m < kn.length → (labN n (gInto n xs ys) (gBases n xs ys) (gLoose n xs ys) kn of kn.length).lab m < (2 * n : Nat) := fun _ m hm => by
    have h1 := labN_ok hG hK kn.length (Nat.le_refl _)
    have h2 := (h1.lab m hm).2
    have h3 := h1.nx
    have h4 : kn.length ≤ 2 * n := by
      rw [← hni]
      refine inj_le (fun k => if hk : k < kn.length then (hK.rep hk).choose else 0) (fun k hk => ?_) (fun i j hi hj e => ?_)
      · simp only [hk, dif_pos]
        exact (hK.rep hk).choose_spec.1
      · simp only [hi, hj, dif_pos] at e
        have h1 := (hK.rep hi).choose_spec.2
        have h2 := (hK.rep hj).choose_spec.2
        rw [e] at h1
        omega
    omega
  have hLlt : ∀ v, v < n → gl n xs ys kn of v < ((2 * n : Nat) : Int) := fun v hv => hcn 0 _ (hK.at_ v (by omega)).1
  have hK2n : kn2.length ≤ 2 * n := by
    rw [← hni]
    refine inj_le (fun k => if hk : k < kn2.length then (hK2.rep hk).choose else 0) (fun k hk => ?_) (fun i j hi hj e => ?_)
    · simp only [hk, dif_pos]
      exact (hK2.rep hk).choose_spec.1
    · simp only [hi, hj, dif_pos] at e
      have h1 := (hK2.rep hi).choose_spec.2
      have h2 := (hK2.rep hj).choose_spec.2
      rw [e] at h1
      omega
  obtain ⟨l, hl⟩ : ∃ l : Nat → Int, l = gl n xs ys kn of := ⟨_, rfl⟩
  have hfacts : ∀ k v, k < kn2.length → v ∈ kn2[k]! → v < n → LabF (looK (gLoose n xs ys) kn2 k) (ownK n (gBases n xs ys) kn2 k) (comeK (gInto n xs ys) n kn2 of2 l k) (rfK (gInto n xs ys) n kn2 of2 k) (l v) (∀ u, u < n → l u = l v → of2 v ≤ of2 u) := fun k v hk hvk hv => labels_ok hright hK hK2 (l := l) (fun v _ => by rw [hl]) hk hvk hv
  rw [← hl] at hLge hLlt rdl
  have hri := hG.ri
  have hrb : ∀ v, v < n → ∀ y ∈ (gBases n xs ys)[v]!, 0 ≤ y ∧ y < (xs.length : Int) := fun v hv y hy => by
    obtain ⟨c, hc, _, k1, rfl⟩ := (bases_mem hright hv y).1 hy
    have := right_cons5 hright c hc
    exact ⟨this.1, this.2.2.1 k1⟩
  obtain ⟨Into, hInto⟩ : ∃ I, I = gInto n xs ys := ⟨_, rfl⟩
  obtain ⟨Bases, hBases⟩ : ∃ I, I = gBases n xs ys := ⟨_, rfl⟩
  obtain ⟨Lo, hLo⟩ : ∃ I, I = gLoose n xs ys := ⟨_, rfl⟩
  obtain ⟨nc, hnc⟩ : ∃ nc, nc = xs.length := ⟨_, rfl⟩
  have hri : ∀ v, v < 2 * n → ∀ x ∈ Into[v]!, 0 ≤ x ∧ x < ((2 * n : Nat) : Int) := fun v hv x hx => by
    have := hri v (by rw [hni]; exact hv) x (by rw [hInto] at hx; exact hx)
    rw [hni] at this
    exact this
  have hkn2 := hK2.kn
  have k1 : RRows w11 A' (gInto n xs ys) := k1
  have k2 : RRows w11 B' (gBases n xs ys) := k2
  rw [← hInto] at k1 hK2 hfacts hni hkn2
  rw [← hBases] at k2 hfacts hrb hnb
  rw [← hLo] at hfacts hrdL hnl
  rw [← hnc] at hrb hb3 hnce
  rw [hni] at hkn2
  clear hl hlab hfi hK hR hof hG hr1 hr2 hcn hK2 hlrow
  obtain ⟨K, hKn⟩ : ∃ K, K = kn2.length := ⟨_, rfl⟩
  refine ⟨_, rfl, run_l tabOk ?_⟩
  rw [← hInto, hni, ← hKn]
  conv => whnf
  (repeat' (first | (refine wl_Lg tabOk hb3 rfl rfl rfl rfl rfl rfl rfl (run_l tabOk ?_); conv => whnf) | (refine wl_add rfl rfl rfl rfl rfl rfl (by omega) (by omega) (run_l tabOk ?_); conv => whnf) | (refine wl_sub rfl rfl rfl rfl rfl rfl (by omega) (by omega) (run_l tabOk ?_); conv => whnf) | (refine wl_cvA tabOk rfl rfl rfl (by simp only [inK]; omega) rfl rfl rfl (run_l tabOk ?_); conv => whnf) | (refine wl_cvB tabOk rfl rfl rfl rfl rfl rfl (run_l tabOk ?_); conv => whnf) | (refine wl_rem rfl rfl rfl rfl rfl rfl (by omega) (by omega) (fun r hr hr0 hr1 hr2 => run_l tabOk ?_); conv => whnf) | (refine wl_quo rfl rfl rfl rfl rfl rfl (by omega) (by omega) (by simp only [inK]; omega) (run_l tabOk ?_); conv => whnf) | (refine wl_mul rfl rfl rfl rfl rfl rfl (by omega) (by omega) (run_l tabOk ?_); conv => whnf) | (refine gs_dt (by first | assumption | omega) ?_; conv => whnf) | (refine gs_df (by first | assumption | omega) ?_; conv => whnf) | (refine gs_t (by assumption) ?_; conv => whnf) | (refine gs_f (by assumption) ?_; conv => whnf) | (refine gs_d (fun hg => ?_) (fun hg => ?_) <;> conv => whnf) | (refine gs_n (fun hg => ?_) (fun hg => ?_) <;> conv => whnf) | (refine gs_nb (fun hg => ?_) (fun hg => ?_) <;> conv => whnf) | (refine gs_b (fun hg => ?_) (fun hg => ?_) <;> conv => whnf) | refine fin1 rfl rfl ?_))
  refine lp_loop tabOk (X := Nat) (fun k => [(3, .pointer (some ⟨g3, 0, none⟩)), (4, .pointer (some ⟨g4, 0, none⟩)), (5, .slice (some ⟨go, 0, none⟩) n n), (6, .slice Ak K ck), (7, .slice (some ⟨go2, 0, none⟩) (2 * n) (2 * n)), (8, .int .i64 (k : Int))]) (fun k wk => k ≤ K ∧ Below w11.heap.size w11 wk) (fun k => K - k) 0 ⟨rfl, rfl, rfl, rfl, rfl, rfl, trivial⟩ ⟨by omega, Below.refl _ _⟩ ?_
  rintro k G2 wk ⟨hk, hBk⟩
  have hb3k := blk_up hBk hb3
  have hb4k := blk_up hBk hb4
  by_cases hkK : k < K
  · obtain ⟨L, hL⟩ : ∃ L, L = kn2[k]! := ⟨_, rfl⟩
    have hkL := hkn2 k (by omega)
    rw [← hL] at hkL
    have hLne : 0 < L.length := List.length_pos_iff.2 hkL.1
    have hLlen : L.length ≤ 2 * n := nodup_lenK (hkL.2.1.imp fun {a b} hab e => by omega) fun v hv => (hkL.2.2 v hv).1
    obtain ⟨x0, adk, B0, cl, ⟨hx0⟩, hA0, hrow0, _, ⟨hR0⟩⟩ := rowsE hrk k (by rw [knI_len]; omega)
    rw [knI_at (by omega), ← hL] at hx0
    have hx0l : x0.length = L.length := by rw [← hx0, List.length_map]
    rw [hx0l] at hrow0
    subst hA0
    obtain ⟨adl, hadl⟩ : ∃ adl, B0 = some adl := by
      obtain ⟨ad, cs, e, _⟩ := row_at hR0 0 (by omega)
      exact ⟨ad, e⟩
    subst hadl
    have rdL : ∀ wi, Below w11.heap.size w11 wi → ∀ i, i < L.length → wi.cell? (adl.add (i * 1)) = some (.int .i64 (L[i]! : Int)) := fun wi hb i hi => by
      obtain ⟨y, ad, ⟨hy⟩, e, hc, _, _⟩ := intsE hR0 i (by omega)
      injection e with e
      subst e
      rw [← hx0, castI_at hi] at hy
      subst hy
      exact cell_up hb hc
    have rdk : ∀ wi, Below w11.heap.size w11 wi → wi.cell? (adk.add (k * 1)) = some (.slice (some adl) L.length cl) := fun wi hb => cell_up hb hrow0
    obtain ⟨v0, hv0⟩ : ∃ v0, v0 = L[0]! := ⟨_, rfl⟩
    have hv0m : v0 ∈ L := by rw [hv0]; exact mem_get hLne
    have hF := hfacts k v0 (by omega) (by rw [← hL]; exact hv0m)
    have hv0n := (hkL.2.2 v0 hv0m).1
    unfold looK ownK comeK rfK at hF
    rw [← hL] at hF
    have hr0 := rdk wk hBk
    have hc0 := rdL wk hBk 0 hLne
    rw [← hv0] at hc0
    conv => whnf
    (repeat' (first | (refine wl_Lg tabOk hb3k rfl rfl rfl rfl rfl rfl rfl (run_l tabOk ?_); conv => whnf) | (refine wl_add rfl rfl rfl rfl rfl rfl (by omega) (by omega) (run_l tabOk ?_); conv => whnf) | (refine wl_sub rfl rfl rfl rfl rfl rfl (by omega) (by omega) (run_l tabOk ?_); conv => whnf) | (refine wl_cvA tabOk rfl rfl rfl (by simp only [inK]; omega) rfl rfl rfl (run_l tabOk ?_); conv => whnf) | (refine wl_cvB tabOk rfl rfl rfl rfl rfl rfl (run_l tabOk ?_); conv => whnf) | (refine wl_rem rfl rfl rfl rfl rfl rfl (by omega) (by omega) (fun r hr hr0 hr1 hr2 => run_l tabOk ?_); conv => whnf) | (refine wl_quo rfl rfl rfl rfl rfl rfl (by omega) (by omega) (by simp only [inK]; omega) (run_l tabOk ?_); conv => whnf) | (refine wl_mul rfl rfl rfl rfl rfl rfl (by omega) (by omega) (run_l tabOk ?_); conv => whnf) | (refine gs_dt (by first | assumption | omega) ?_; conv => whnf) | (refine gs_df (by first | assumption | omega) ?_; conv => whnf) | (refine gs_t (by assumption) ?_; conv => whnf) | (refine gs_f (by assumption) ?_; conv => whnf) | (refine gs_d (fun hg => ?_) (fun hg => ?_) <;> conv => whnf) | (refine gs_n (fun hg => ?_) (fun hg => ?_) <;> conv => whnf) | (refine gs_nb (fun hg => ?_) (fun hg => ?_) <;> conv => whnf) | (refine gs_b (fun hg => ?_) (fun hg => ?_) <;> conv => whnf) | refine fin1 rfl rfl ?_))
    refine wl_mk (m := nc) tabOk 4 1 1 rfl rfl rfl rfl rfl rfl rfl rfl rfl (by omega) (by omega) ?_
    intro gO wa hna
    refine run_l tabOk ?_
    conv => whnf
    have hBa := bup hBk hna.below
    have hOa : wa.heap[gO]? = some (.cells (vb (oB nc [])).toArray 4 (0, 0)) := by rw [← oB_nil]; exact hna.blk
    have hgO : w11.heap.size ≤ gO ∧ gO < wa.heap.size := ⟨by have := hna.at_; have := hBk.size; omega, blk_lt hOa⟩
    have hOS : OS wa.heap.size w11 wa gO nc [] (.slice none ([] : List Int).length 0) [] := ⟨hBa, Nat.le_refl _, hOa, GRow.nil ..⟩
    have hr0 := rdk wa hBa
    have hc0 := rdL wa hBa 0 hLne
    rw [← hv0] at hc0
    clear hna
    (repeat' (first | (refine wl_L tabOk rfl rfl rfl rfl rfl rfl hr0 (run_l tabOk ?_); conv => whnf) | (refine wl_L tabOk rfl rfl rfl rfl rfl rfl hc0 (run_l tabOk ?_); conv => whnf) | (refine wl_Xn tabOk 24 1 rfl rfl rfl rfl rfl rfl rfl (by omega) (run_l tabOk ?_); conv => whnf) | (refine wl_Xn tabOk 3 1 rfl rfl rfl rfl rfl rfl rfl (by omega) (run_l tabOk ?_); conv => whnf) | (refine wl_X tabOk 3 1 rfl rfl rfl rfl rfl rfl rfl (by omega) (by omega) (run_l tabOk ?_); conv => whnf) | (refine wl_add rfl rfl rfl rfl rfl rfl (by omega) (by omega) (run_l tabOk ?_); conv => whnf) | (refine wl_sub rfl rfl rfl rfl rfl rfl (by omega) (by omega) (run_l tabOk ?_); conv => whnf) | (refine wl_cvA tabOk rfl rfl rfl (by simp only [inK]; omega) rfl rfl rfl (run_l tabOk ?_); conv => whnf) | (refine wl_cvB tabOk rfl rfl rfl rfl rfl rfl (run_l tabOk ?_); conv => whnf) | (refine wl_rem rfl rfl rfl rfl rfl rfl (by omega) (by omega) (fun r hr hr0 hr1 hr2 => run_l tabOk ?_); conv => whnf) | (refine wl_quo rfl rfl rfl rfl rfl rfl (by omega) (by omega) (by simp only [inK]; omega) (run_l tabOk ?_); conv => whnf) | (refine wl_mul rfl rfl rfl rfl rfl rfl (by omega) (by omega) (run_l tabOk ?_); conv => whnf) | (refine gs_dt (by first | assumption | omega) ?_; conv => whnf) | (refine gs_df (by first | assumption | omega) ?_; conv => whnf) | (refine gs_t (by assumption) ?_; conv => whnf) | (refine gs_f (by assumption) ?_; conv => whnf) | (refine gs_d (fun hg => ?_) (fun hg => ?_) <;> conv => whnf) | (refine gs_n (fun hg => ?_) (fun hg => ?_) <;> conv => whnf) | (refine gs_nb (fun hg => ?_) (fun hg => ?_) <;> conv => whnf) | (refine gs_b (fun hg => ?_) (fun hg => ?_) <;> conv => whnf) | refine fin1 rfl rfl ?_))
    refine wc_ends 2 (fun _ _ => False) (X := Option Addr × Nat) (fun x => [(3, .pointer (some ⟨g3, 0, none⟩)), (4, .pointer (some ⟨g4, 0, none⟩)), (5, .slice (some ⟨go, 0, none⟩) n n), (6, .slice (some adk) K ck), (7, .slice (some ⟨go2, 0, none⟩) (2 * n) (2 * n)), (8, .int .i64 (k : Int)), (9, .bool (L.foldl (looV Lo) false)), (10, .slice (some ⟨gO, 0, none⟩) nc nc), (11, .int .i64 (((L.foldl (ownV Bases n) [])).length : Int)), (12, .bool (L.foldl (rfV Into n of2 k) false)), (13, .slice x.1 ((L.foldl (inV Into n of2 l k) [])).length x.2), (14, .int .i64 (v0 : Int))]) (fun x wi => OS wa.heap.size w11 wi gO nc ((L.foldl (ownV Bases n) [])) (.slice x.1 ((L.foldl (inV Into n of2 l k) [])).length x.2) ((L.foldl (inV Into n of2 l k) [])) ∧ SP2 (2 * n) ((L.foldl (inV Into n of2 l k) [])) ∧ OwnP ((L.foldl (ownV Bases n) []))) ?_ (fun _ _ h => h.elim) ?_
    · refine lp_loop tabOk (X := Nat × Option Addr × Nat) (fun x => [(3, .pointer (some ⟨g3, 0, none⟩)), (4, .pointer (some ⟨g4, 0, none⟩)), (5, .slice (some ⟨go, 0, none⟩) n n), (6, .slice (some adk) K ck), (7, .slice (some ⟨go2, 0, none⟩) (2 * n) (2 * n)), (8, .int .i64 (k : Int)), (9, .bool ((L.take x.1).foldl (looV Lo) false)), (10, .slice (some ⟨gO, 0, none⟩) nc nc), (11, .int .i64 ((((L.take x.1).foldl (ownV Bases n) [])).length : Int)), (12, .bool ((L.take x.1).foldl (rfV Into n of2 k) false)), (13, .slice x.2.1 (((L.take x.1).foldl (inV Into n of2 l k) [])).length x.2.2), (14, .int .i64 (v0 : Int)), (15, .int .i64 (x.1 : Int))]) (fun x wi => x.1 ≤ L.length ∧ OS wa.heap.size w11 wi gO nc (((L.take x.1).foldl (ownV Bases n) [])) (.slice x.2.1 (((L.take x.1).foldl (inV Into n of2 l k) [])).length x.2.2) (((L.take x.1).foldl (inV Into n of2 l k) [])) ∧ SP2 (2 * n) (((L.take x.1).foldl (inV Into n of2 l k) [])) ∧ OwnP (((L.take x.1).foldl (ownV Bases n) []))) (fun x => L.length - x.1) (0, none, 0) ⟨rfl, rfl, rfl, rfl, rfl, rfl, rfl, rfl, rfl, rfl, rfl, rfl, rfl, trivial⟩ ⟨by simp, hOS, ⟨.nil, by simp⟩, ⟨.nil, by simp⟩⟩ ?_
      clear hOS hOa hr0 hc0
      rintro ⟨i, D, dc⟩ G3 wi ⟨hi, hOi, hSP, hWP⟩
      simp only at hi hOi hSP hWP
      have hb3i := blk_up hOi.below hb3
      have hb4i := blk_up hOi.below hb4
      have hri1 := rdk wi hOi.below
      by_cases hil : i < L.length
      · obtain ⟨w, hw⟩ : ∃ w, w = L[i]! := ⟨_, rfl⟩
        have hwL : w ∈ L := by rw [hw]; exact mem_get hil
        have hw2 := (hkL.2.2 w hwL).1
        have hcw := rdL wi hOi.below i hil
        rw [← hw] at hcw
        obtain ⟨hcl, hCe⟩ := hrdL wi hOi.below w hw2
        obtain ⟨cad, hcad⟩ : ∃ cad, cad = C'.getD default := ⟨_, rfl⟩
        rw [← hcad] at hcl hCe
        subst hCe
        obtain ⟨bb, hbb⟩ : ∃ bb, bb = ((L.take i).foldl (looV Lo) false) := ⟨_, rfl⟩
        obtain ⟨W, hW⟩ : ∃ W, W = ((L.take i).foldl (ownV Bases n) []) := ⟨_, rfl⟩
        obtain ⟨S, hS⟩ : ∃ S, S = ((L.take i).foldl (inV Into n of2 l k) []) := ⟨_, rfl⟩
        obtain ⟨R, hR⟩ : ∃ R, R = ((L.take i).foldl (rfV Into n of2 k) false) := ⟨_, rfl⟩
        have nb : ((L.take (i + 1)).foldl (looV Lo) false) = looV Lo bb w := by rw [fold_take _ _ hil, ← hbb, ← hw]
        have nW : ((L.take (i + 1)).foldl (ownV Bases n) []) = ownV Bases n W w := by rw [fold_take _ _ hil, ← hW, ← hw]
        have nS : ((L.take (i + 1)).foldl (inV Into n of2 l k) []) = inV Into n of2 l k S w := by rw [fold_take _ _ hil, ← hS, ← hw]
        have nR : ((L.take (i + 1)).foldl (rfV Into n of2 k) false) = rfV Into n of2 k R w := by rw [fold_take _ _ hil, ← hR, ← hw]
        rw [← hW, ← hS] at hOi
        rw [← hS] at hSP
        rw [← hW] at hWP
        rw [← hbb, ← hW, ← hS, ← hR]
        clear hbb hW hS hR
        obtain ⟨b2, hb2⟩ : ∃ b2, b2 = looV Lo bb w := ⟨_, rfl⟩
        rw [← hb2] at nb
        -- objects of its own
        obtain ⟨xb, hxb⟩ : ∃ xb : List Int, xb = if w < n then Bases[w]! else [] := ⟨_, rfl⟩
        have hoV : ownV Bases n W w = xb.foldl addI W := by
          unfold ownV
          rw [hxb]
          split <;> rfl
        have hxbN : ∀ y ∈ xb, 0 ≤ y ∧ y < (nc : Int) := fun y hy => by
          rw [hxb] at hy
          split at hy
          · rename_i hwn; exact hrb w hwn y hy
          · cases hy
        have hxbw : 0 < xb.length → w < n := fun h => by
          rw [hxb] at h
          split at h
          · assumption
          · cases h
        have rdB : w < n → ∃ adb Bb cb, B' = some adb ∧ (∀ wj, Below w11.heap.size w11 wj → wj.cell? (adb.add (w * 1)) = some (.slice Bb xb.length cb)) ∧ RI w11 Bb xb := fun hwn => by
          obtain ⟨x, ad, Bb, cb, ⟨hx⟩, e, hc, _, ⟨hr⟩⟩ := rowsE k2 w (by rw [hnb]; exact hwn)
          have hxx : x = xb := by rw [hxb, if_pos hwn, hx]
          subst hxx
          exact ⟨ad, Bb, cb, e, fun wj hb => cell_up hb hc, hr⟩
        -- what comes into it
        obtain ⟨xi, adi, Bi, ci, ⟨hxi⟩, hAi, hci0, _, ⟨hRi⟩⟩ := rowsE k1 w (by rw [hni]; exact hw2)
        subst hAi
        have rdI : ∀ wj, Below w11.heap.size w11 wj → wj.cell? (adi.add (w * 1)) = some (.slice Bi xi.length ci) := fun wj hb => cell_up hb hci0
        have hxiN : ∀ y ∈ xi, 0 ≤ y ∧ y < ((2 * n : Nat) : Int) := fun y hy => hri w hw2 y (by rw [hxi]; exact hy)
        have hiV : inV Into n of2 l k S w = xi.foldl (inX n of2 l k) S := by unfold inV; rw [hxi]
        have hrV : rfV Into n of2 k R w = xi.foldl (rfX n of2 k) R := by unfold rfV; rw [hxi]
        rw [hoV] at nW
        rw [hiV] at nS
        rw [hrV] at nR
        have hxm := hRi.1
        clear hoV hiV hrV hxi hxb hci0 k1 k2 k3 hrdL hfacts
        have hbc : bb = true ∨ bb = false := by cases bb <;> simp
        have hq : (bb = true ∧ b2 = true) ∨ (bb = false ∧ b2 = Lo[w]!) := by
          rcases hbc with e | e
          · exact .inl ⟨e, by rw [hb2, e]; rfl⟩
          · exact .inr ⟨e, by rw [hb2, e]; simp [looV]⟩
        clear hb2 hbc
        rcases hq with ⟨rfl, hq⟩ | ⟨rfl, hq⟩
        all_goals
          conv => whnf
          (repeat' (first | (refine wl_Lg tabOk hb4i rfl rfl rfl rfl rfl rfl rfl (run_l tabOk ?_); conv => whnf) | (refine wl_L tabOk rfl rfl rfl rfl rfl rfl hri1 (run_l tabOk ?_); conv => whnf) | (refine wl_L tabOk rfl rfl rfl rfl rfl rfl hcw (run_l tabOk ?_); conv => whnf) | (refine wl_L tabOk rfl rfl rfl rfl rfl rfl hcl (run_l tabOk ?_); conv => whnf) | (refine wl_Xn tabOk 24 1 rfl rfl rfl rfl rfl rfl rfl (by omega) (run_l tabOk ?_); conv => whnf) | (refine wl_Xn tabOk 3 1 rfl rfl rfl rfl rfl rfl rfl (by omega) (run_l tabOk ?_); conv => whnf) | (refine wl_Xn tabOk 4 1 rfl rfl rfl rfl rfl rfl rfl (by omega) (run_l tabOk ?_); conv => whnf) | (refine wl_add rfl rfl rfl rfl rfl rfl (by omega) (by omega) (run_l tabOk ?_); conv => whnf) | (refine wl_sub rfl rfl rfl rfl rfl rfl (by omega) (by omega) (run_l tabOk ?_); conv => whnf) | (refine wl_cvA tabOk rfl rfl rfl (by simp only [inK]; omega) rfl rfl rfl (run_l tabOk ?_); conv => whnf) | (refine wl_cvB tabOk rfl rfl rfl rfl rfl rfl (run_l tabOk ?_); conv => whnf) | (refine wl_rem rfl rfl rfl rfl rfl rfl (by omega) (by omega) (fun r hr hr0 hr1 hr2 => run_l tabOk ?_); conv => whnf) | (refine wl_quo rfl rfl rfl rfl rfl rfl (by omega) (by omega) (by simp only [inK]; omega) (run_l tabOk ?_); conv => whnf) | (refine wl_mul rfl rfl rfl rfl rfl rfl (by omega) (by omega) (run_l tabOk ?_); conv => whnf) | (refine gs_dt (by first | assumption | omega) ?_; conv => whnf) | (refine gs_df (by first | assumption | omega) ?_; conv => whnf) | (refine gs_t (by assumption) ?_; conv => whnf) | (refine gs_f (by assumption) ?_; conv => whnf) | (refine gs_d (fun hg => ?_) (fun hg => ?_) <;> conv => whnf) | (refine gs_n (fun hg => ?_) (fun hg => ?_) <;> conv => whnf) | (refine gs_nb (fun hg => ?_) (fun hg => ?_) <;> conv => whnf) | (refine gs_b (fun hg => ?_) (fun hg => ?_) <;> conv => whnf) | refine fin1 rfl rfl ?_))
          refine wc_ends 4 (fun _ _ => False) (X := Unit) (fun _ => [(3, .pointer (some ⟨g3, 0, none⟩)), (4, .pointer (some ⟨g4, 0, none⟩)), (5, .slice (some ⟨go, 0, none⟩) n n), (6, .slice (some adk) K ck), (7, .slice (some ⟨go2, 0, none⟩) (2 * n) (2 * n)), (8, .int .i64 (k : Int)), (9, .bool b2), (10, .slice (some ⟨gO, 0, none⟩) nc nc), (11, .int .i64 ((xb.foldl addI W).length : Int)), (12, .bool R), (13, .slice D (S).length dc), (14, .int .i64 (v0 : Int)), (15, .int .i64 (i : Int)), (16, .int .i64 (w : Int))]) (fun _ wj => OS wa.heap.size w11 wj gO nc (xb.foldl addI W) (.slice D (S).length dc) (S) ∧ SP2 (2 * n) (S) ∧ OwnP (xb.foldl addI W)) ?_ (fun _ _ h => h.elim) ?_
          · refine lp_loop tabOk (X := Nat) (fun j => [(3, .pointer (some ⟨g3, 0, none⟩)), (4, .pointer (some ⟨g4, 0, none⟩)), (5, .slice (some ⟨go, 0, none⟩) n n), (6, .slice (some adk) K ck), (7, .slice (some ⟨go2, 0, none⟩) (2 * n) (2 * n)), (8, .int .i64 (k : Int)), (9, .bool b2), (10, .slice (some ⟨gO, 0, none⟩) nc nc), (11, .int .i64 (((xb.take j).foldl addI W).length : Int)), (12, .bool R), (13, .slice D (S).length dc), (14, .int .i64 (v0 : Int)), (15, .int .i64 (i : Int)), (16, .int .i64 (w : Int)), (17, .int .i64 (j : Int))]) (fun j wj => j ≤ xb.length ∧ OS wa.heap.size w11 wj gO nc ((xb.take j).foldl addI W) (.slice D (S).length dc) (S) ∧ SP2 (2 * n) (S) ∧ OwnP ((xb.take j).foldl addI W)) (fun j => xb.length - j) 0 ⟨rfl, rfl, rfl, rfl, rfl, rfl, congrArg Value.bool hq.symm, rfl, rfl, rfl, rfl, rfl, rfl, rfl, rfl, trivial⟩ ⟨by omega, hOi, hSP, hWP⟩ ?_
            clear hOi hWP
            rintro j G4 wj ⟨hj, hOj, hSPj, hWPj⟩
            have hb3j := blk_up hOj.below hb3
            have hb4j := blk_up hOj.below hb4
            by_cases hjx : j < xb.length
            · have hwn := hxbw (by omega)
              obtain ⟨adb, Bb, cb, hBe, hcb, hRb⟩ := rdB hwn
              subst hBe
              have hxbm := hRb.1
              have hcb := hcb wj hOj.below
              obtain ⟨y, ad3, ⟨hy⟩, e3, hyc, _, _⟩ := intsE (hRb.up (stays_I _) hOj.below) j hjx
              subst e3
              have hym : y ∈ xb := by rw [← hy]; exact mem_get hjx
              have hyn := hxbN y hym
              obtain ⟨o, rfl⟩ := Int.eq_ofNat_of_zero_le hyn.1
              have hon : o < nc := by omega
              have hfn : (xb.take (j + 1)).foldl addI W = addI ((xb.take j).foldl addI W) o := by rw [fold_take _ _ hjx, hy]
              have hPn : OwnP (addI ((xb.take j).foldl addI W) o) := ⟨addI_nodup hWPj.1 _, addI_all hWPj.2 (by omega)⟩
              have hWl : ((xb.take j).foldl addI W).length ≤ 16384 := nodupI_len hWPj.1 hWPj.2
              have hco := hOj.cell hon
              have hob := hOj.own
              by_cases hin : (o : Int) ∈ (xb.take j).foldl addI W
              · rw [decide_eq_true hin] at hco
                have hsl : ((xb.take (j + 1)).foldl addI W).length = ((xb.take j).foldl addI W).length := by rw [hfn, addI_in hin]
                conv => whnf
                (repeat' (first | (refine wl_Lg tabOk hb3j rfl rfl rfl rfl rfl rfl rfl (run_l tabOk ?_); conv => whnf) | (refine wl_Lg tabOk hb4j rfl rfl rfl rfl rfl rfl rfl (run_l tabOk ?_); conv => whnf) | (refine wl_L tabOk rfl rfl rfl rfl rfl rfl hcb (run_l tabOk ?_); conv => whnf) | (refine wl_L tabOk rfl rfl rfl rfl rfl rfl hyc (run_l tabOk ?_); conv => whnf) | (refine wl_L tabOk rfl rfl rfl rfl rfl rfl hco (run_l tabOk ?_); conv => whnf) | (refine wl_Xn tabOk 24 1 rfl rfl rfl rfl rfl rfl rfl (by omega) (run_l tabOk ?_); conv => whnf) | (refine wl_Xn tabOk 3 1 rfl rfl rfl rfl rfl rfl rfl (by omega) (run_l tabOk ?_); conv => whnf) | (refine wl_Xn tabOk 4 1 rfl rfl rfl rfl rfl rfl rfl (by omega) (run_l tabOk ?_); conv => whnf) | (refine wl_X tabOk 4 1 rfl rfl rfl rfl rfl rfl rfl (by omega) (by omega) (run_l tabOk ?_); conv => whnf) | (refine wl_add rfl rfl rfl rfl rfl rfl (by omega) (by omega) (run_l tabOk ?_); conv => whnf) | (refine wl_sub rfl rfl rfl rfl rfl rfl (by omega) (by omega) (run_l tabOk ?_); conv => whnf) | (refine wl_cvA tabOk rfl rfl rfl (by simp only [inK]; omega) rfl rfl rfl (run_l tabOk ?_); conv => whnf) | (refine wl_cvB tabOk rfl rfl rfl rfl rfl rfl (run_l tabOk ?_); conv => whnf) | (refine wl_rem rfl rfl rfl rfl rfl rfl (by omega) (by omega) (fun r hr hr0 hr1 hr2 => run_l tabOk ?_); conv => whnf) | (refine wl_quo rfl rfl rfl rfl rfl rfl (by omega) (by omega) (by simp only [inK]; omega) (run_l tabOk ?_); conv => whnf) | (refine wl_mul rfl rfl rfl rfl rfl rfl (by omega) (by omega) (run_l tabOk ?_); conv => whnf) | (refine gs_dt (by first | assumption | omega) ?_; conv => whnf) | (refine gs_df (by first | assumption | omega) ?_; conv => whnf) | (refine gs_t (by assumption) ?_; conv => whnf) | (refine gs_f (by assumption) ?_; conv => whnf) | (refine gs_d (fun hg => ?_) (fun hg => ?_) <;> conv => whnf) | (refine gs_n (fun hg => ?_) (fun hg => ?_) <;> conv => whnf) | (refine gs_nb (fun hg => ?_) (fun hg => ?_) <;> conv => whnf) | (refine gs_b (fun hg => ?_) (fun hg => ?_) <;> conv => whnf) | refine fin1 rfl rfl ?_))
                refine wl_Se (j := o * 1) (v := .bool true) tabOk hob rfl rfl rfl rfl rfl rfl (by simp [vb, oB_len]; omega) rfl rfl ?_
                intro w2 hp2
                rw [Nat.mul_one] at hp2
                refine run_l tabOk ?_
                conv => whnf
                (repeat' (first | (refine wl_add rfl rfl rfl rfl rfl rfl (by omega) (by omega) (run_l tabOk ?_); conv => whnf) | (refine wl_sub rfl rfl rfl rfl rfl rfl (by omega) (by omega) (run_l tabOk ?_); conv => whnf) | (refine wl_cvA tabOk rfl rfl rfl (by simp only [inK]; omega) rfl rfl rfl (run_l tabOk ?_); conv => whnf) | (refine wl_cvB tabOk rfl rfl rfl rfl rfl rfl (run_l tabOk ?_); conv => whnf) | (refine wl_rem rfl rfl rfl rfl rfl rfl (by omega) (by omega) (fun r hr hr0 hr1 hr2 => run_l tabOk ?_); conv => whnf) | (refine wl_quo rfl rfl rfl rfl rfl rfl (by omega) (by omega) (by simp only [inK]; omega) (run_l tabOk ?_); conv => whnf) | (refine wl_mul rfl rfl rfl rfl rfl rfl (by omega) (by omega) (run_l tabOk ?_); conv => whnf) | (refine gs_dt (by first | assumption | omega) ?_; conv => whnf) | (refine gs_df (by first | assumption | omega) ?_; conv => whnf) | (refine gs_t (by assumption) ?_; conv => whnf) | (refine gs_f (by assumption) ?_; conv => whnf) | (refine gs_d (fun hg => ?_) (fun hg => ?_) <;> conv => whnf) | (refine gs_n (fun hg => ?_) (fun hg => ?_) <;> conv => whnf) | (refine gs_nb (fun hg => ?_) (fun hg => ?_) <;> conv => whnf) | (refine gs_b (fun hg => ?_) (fun hg => ?_) <;> conv => whnf) | refine fin1 rfl rfl ?_))
                exact ⟨j + 1, ⟨rfl, rfl, rfl, rfl, rfl, rfl, rfl, rfl, congrArg (fun (m : Nat) => Value.int .i64 (m : Int)) hsl.symm, rfl, rfl, rfl, rfl, rfl, rfl, trivial⟩, ⟨hjx, by rw [hfn]; exact hOj.put hon hgO.1 hgO.2 hp2, hSPj, by rw [hfn]; exact hPn⟩, by omega⟩
              · rw [decide_eq_false hin] at hco
                have hsl : ((((xb.take (j + 1)).foldl addI W).length : Nat) : Int) = (((xb.take j).foldl addI W).length : Int) + 1 := by rw [hfn, addI_len hin]; simp
                conv => whnf
                (repeat' (first | (refine wl_Lg tabOk hb3j rfl rfl rfl rfl rfl rfl rfl (run_l tabOk ?_); conv => whnf) | (refine wl_Lg tabOk hb4j rfl rfl rfl rfl rfl rfl rfl (run_l tabOk ?_); conv => whnf) | (refine wl_L tabOk rfl rfl rfl rfl rfl rfl hcb (run_l tabOk ?_); conv => whnf) | (refine wl_L tabOk rfl rfl rfl rfl rfl rfl hyc (run_l tabOk ?_); conv => whnf) | (refine wl_L tabOk rfl rfl rfl rfl rfl rfl hco (run_l tabOk ?_); conv => whnf) | (refine wl_Xn tabOk 24 1 rfl rfl rfl rfl rfl rfl rfl (by omega) (run_l tabOk ?_); conv => whnf) | (refine wl_Xn tabOk 3 1 rfl rfl rfl rfl rfl rfl rfl (by omega) (run_l tabOk ?_); conv => whnf) | (refine wl_Xn tabOk 4 1 rfl rfl rfl rfl rfl rfl rfl (by omega) (run_l tabOk ?_); conv => whnf) | (refine wl_X tabOk 4 1 rfl rfl rfl rfl rfl rfl rfl (by omega) (by omega) (run_l tabOk ?_); conv => whnf) | (refine wl_add rfl rfl rfl rfl rfl rfl (by omega) (by omega) (run_l tabOk ?_); conv => whnf) | (refine wl_sub rfl rfl rfl rfl rfl rfl (by omega) (by omega) (run_l tabOk ?_); conv => whnf) | (refine wl_cvA tabOk rfl rfl rfl (by simp only [inK]; omega) rfl rfl rfl (run_l tabOk ?_); conv => whnf) | (refine wl_cvB tabOk rfl rfl rfl rfl rfl rfl (run_l tabOk ?_); conv => whnf) | (refine wl_rem rfl rfl rfl rfl rfl rfl (by omega) (by omega) (fun r hr hr0 hr1 hr2 => run_l tabOk ?_); conv => whnf) | (refine wl_quo rfl rfl rfl rfl rfl rfl (by omega) (by omega) (by simp only [inK]; omega) (run_l tabOk ?_); conv => whnf) | (refine wl_mul rfl rfl rfl rfl rfl rfl (by omega) (by omega) (run_l tabOk ?_); conv => whnf) | (refine gs_dt (by first | assumption | omega) ?_; conv => whnf) | (refine gs_df (by first | assumption | omega) ?_; conv => whnf) | (refine gs_t (by assumption) ?_; conv => whnf) | (refine gs_f (by assumption) ?_; conv => whnf) | (refine gs_d (fun hg => ?_) (fun hg => ?_) <;> conv => whnf) | (refine gs_n (fun hg => ?_) (fun hg => ?_) <;> conv => whnf) | (refine gs_nb (fun hg => ?_) (fun hg => ?_) <;> conv => whnf) | (refine gs_b (fun hg => ?_) (fun hg => ?_) <;> conv => whnf) | refine fin1 rfl rfl ?_))
                refine wl_Se (j := o * 1) (v := .bool true) tabOk hob rfl rfl rfl rfl rfl rfl (by simp [vb, oB_len]; omega) rfl rfl ?_
                intro w2 hp2
                rw [Nat.mul_one] at hp2
                refine run_l tabOk ?_
                conv => whnf
                (repeat' (first | (refine wl_add rfl rfl rfl rfl rfl rfl (by omega) (by omega) (run_l tabOk ?_); conv => whnf) | (refine wl_sub rfl rfl rfl rfl rfl rfl (by omega) (by omega) (run_l tabOk ?_); conv => whnf) | (refine wl_cvA tabOk rfl rfl rfl (by simp only [inK]; omega) rfl rfl rfl (run_l tabOk ?_); conv => whnf) | (refine wl_cvB tabOk rfl rfl rfl rfl rfl rfl (run_l tabOk ?_); conv => whnf) | (refine wl_rem rfl rfl rfl rfl rfl rfl (by omega) (by omega) (fun r hr hr0 hr1 hr2 => run_l tabOk ?_); conv => whnf) | (refine wl_quo rfl rfl rfl rfl rfl rfl (by omega) (by omega) (by simp only [inK]; omega) (run_l tabOk ?_); conv => whnf) | (refine wl_mul rfl rfl rfl rfl rfl rfl (by omega) (by omega) (run_l tabOk ?_); conv => whnf) | (refine gs_dt (by first | assumption | omega) ?_; conv => whnf) | (refine gs_df (by first | assumption | omega) ?_; conv => whnf) | (refine gs_t (by assumption) ?_; conv => whnf) | (refine gs_f (by assumption) ?_; conv => whnf) | (refine gs_d (fun hg => ?_) (fun hg => ?_) <;> conv => whnf) | (refine gs_n (fun hg => ?_) (fun hg => ?_) <;> conv => whnf) | (refine gs_nb (fun hg => ?_) (fun hg => ?_) <;> conv => whnf) | (refine gs_b (fun hg => ?_) (fun hg => ?_) <;> conv => whnf) | refine fin1 rfl rfl ?_))
                exact ⟨j + 1, ⟨rfl, rfl, rfl, rfl, rfl, rfl, rfl, rfl, congrArg (fun (m : Int) => Value.int .i64 m) hsl.symm, rfl, rfl, rfl, rfl, rfl, rfl, trivial⟩, ⟨hjx, by rw [hfn]; exact hOj.put hon hgO.1 hgO.2 hp2, hSPj, by rw [hfn]; exact hPn⟩, by omega⟩
            · have hjl : j = xb.length := by omega
              rw [hjl, List.take_length] at hOj hWPj
              have hte : (xb.take j).foldl addI W = xb.foldl addI W := by rw [hjl, List.take_length]
              by_cases hwn : w < n
              · obtain ⟨adb, Bb, cb, hBe, hcb, hRb⟩ := rdB hwn
                subst hBe
                have hcb := hcb wj hOj.below
                rw [hte]
                conv => whnf
                (repeat' (first | (refine wl_Lg tabOk hb3j rfl rfl rfl rfl rfl rfl rfl (run_l tabOk ?_); conv => whnf) | (refine wl_Lg tabOk hb4j rfl rfl rfl rfl rfl rfl rfl (run_l tabOk ?_); conv => whnf) | (refine wl_L tabOk rfl rfl rfl rfl rfl rfl hcb (run_l tabOk ?_); conv => whnf) | (refine wl_Xn tabOk 24 1 rfl rfl rfl rfl rfl rfl rfl (by omega) (run_l tabOk ?_); conv => whnf) | (refine wl_Xn tabOk 3 1 rfl rfl rfl rfl rfl rfl rfl (by omega) (run_l tabOk ?_); conv => whnf) | (refine wl_add rfl rfl rfl rfl rfl rfl (by omega) (by omega) (run_l tabOk ?_); conv => whnf) | (refine wl_sub rfl rfl rfl rfl rfl rfl (by omega) (by omega) (run_l tabOk ?_); conv => whnf) | (refine wl_cvA tabOk rfl rfl rfl (by simp only [inK]; omega) rfl rfl rfl (run_l tabOk ?_); conv => whnf) | (refine wl_cvB tabOk rfl rfl rfl rfl rfl rfl (run_l tabOk ?_); conv => whnf) | (refine wl_rem rfl rfl rfl rfl rfl rfl (by omega) (by omega) (fun r hr hr0 hr1 hr2 => run_l tabOk ?_); conv => whnf) | (refine wl_quo rfl rfl rfl rfl rfl rfl (by omega) (by omega) (by simp only [inK]; omega) (run_l tabOk ?_); conv => whnf) | (refine wl_mul rfl rfl rfl rfl rfl rfl (by omega) (by omega) (run_l tabOk ?_); conv => whnf) | (refine gs_dt (by first | assumption | omega) ?_; conv => whnf) | (refine gs_df (by first | assumption | omega) ?_; conv => whnf) | (refine gs_t (by assumption) ?_; conv => whnf) | (refine gs_f (by assumption) ?_; conv => whnf) | (refine gs_d (fun hg => ?_) (fun hg => ?_) <;> conv => whnf) | (refine gs_n (fun hg => ?_) (fun hg => ?_) <;> conv => whnf) | (refine gs_nb (fun hg => ?_) (fun hg => ?_) <;> conv => whnf) | (refine gs_b (fun hg => ?_) (fun hg => ?_) <;> conv => whnf) | refine fin1 rfl rfl ?_))
                exact ⟨rfl, (), ⟨rfl, rfl, rfl, rfl, rfl, rfl, rfl, rfl, rfl, rfl, rfl, rfl, rfl, rfl, trivial⟩, hOj, hSPj, hWPj⟩
              · rw [hte]
                conv => whnf
                (repeat' (first | (refine wl_Lg tabOk hb3j rfl rfl rfl rfl rfl rfl rfl (run_l tabOk ?_); conv => whnf) | (refine wl_Lg tabOk hb4j rfl rfl rfl rfl rfl rfl rfl (run_l tabOk ?_); conv => whnf) | (refine wl_add rfl rfl rfl rfl rfl rfl (by omega) (by omega) (run_l tabOk ?_); conv => whnf) | (refine wl_sub rfl rfl rfl rfl rfl rfl (by omega) (by omega) (run_l tabOk ?_); conv => whnf) | (refine wl_cvA tabOk rfl rfl rfl (by simp only [inK]; omega) rfl rfl rfl (run_l tabOk ?_); conv => whnf) | (refine wl_cvB tabOk rfl rfl rfl rfl rfl rfl (run_l tabOk ?_); conv => whnf) | (refine wl_rem rfl rfl rfl rfl rfl rfl (by omega) (by omega) (fun r hr hr0 hr1 hr2 => run_l tabOk ?_); conv => whnf) | (refine wl_quo rfl rfl rfl rfl rfl rfl (by omega) (by omega) (by simp only [inK]; omega) (run_l tabOk ?_); conv => whnf) | (refine wl_mul rfl rfl rfl rfl rfl rfl (by omega) (by omega) (run_l tabOk ?_); conv => whnf) | (refine gs_dt (by first | assumption | omega) ?_; conv => whnf) | (refine gs_df (by first | assumption | omega) ?_; conv => whnf) | (refine gs_t (by assumption) ?_; conv => whnf) | (refine gs_f (by assumption) ?_; conv => whnf) | (refine gs_d (fun hg => ?_) (fun hg => ?_) <;> conv => whnf) | (refine gs_n (fun hg => ?_) (fun hg => ?_) <;> conv => whnf) | (refine gs_nb (fun hg => ?_) (fun hg => ?_) <;> conv => whnf) | (refine gs_b (fun hg => ?_) (fun hg => ?_) <;> conv => whnf) | refine fin1 rfl rfl ?_))
                exact ⟨rfl, (), ⟨rfl, rfl, rfl, rfl, rfl, rfl, rfl, rfl, rfl, rfl, rfl, rfl, rfl, rfl, trivial⟩, hOj, hSPj, hWPj⟩
          · rintro _ G4 wj ⟨hOj, hSPj, hWPj⟩
            obtain ⟨W2, hW2⟩ : ∃ W2, W2 = xb.foldl addI W := ⟨_, rfl⟩
            rw [← hW2] at hOj hWPj nW
            rw [← hW2]
            clear hW2 hOi hWP hxbN hxbw rdB
            conv => whnf
            (repeat' (first | (refine wl_add rfl rfl rfl rfl rfl rfl (by omega) (by omega) (run_l tabOk ?_); conv => whnf) | (refine wl_sub rfl rfl rfl rfl rfl rfl (by omega) (by omega) (run_l tabOk ?_); conv => whnf) | (refine wl_cvA tabOk rfl rfl rfl (by simp only [inK]; omega) rfl rfl rfl (run_l tabOk ?_); conv => whnf) | (refine wl_cvB tabOk rfl rfl rfl rfl rfl rfl (run_l tabOk ?_); conv => whnf) | (refine wl_rem rfl rfl rfl rfl rfl rfl (by omega) (by omega) (fun r hr hr0 hr1 hr2 => run_l tabOk ?_); conv => whnf) | (refine wl_quo rfl rfl rfl rfl rfl rfl (by omega) (by omega) (by simp only [inK]; omega) (run_l tabOk ?_); conv => whnf) | (refine wl_mul rfl rfl rfl rfl rfl rfl (by omega) (by omega) (run_l tabOk ?_); conv => whnf) | (refine gs_dt (by first | assumption | omega) ?_; conv => whnf) | (refine gs_df (by first | assumption | omega) ?_; conv => whnf) | (refine gs_t (by assumption) ?_; conv => whnf) | (refine gs_f (by assumption) ?_; conv => whnf) | (refine gs_d (fun hg => ?_) (fun hg => ?_) <;> conv => whnf) | (refine gs_n (fun hg => ?_) (fun hg => ?_) <;> conv => whnf) | (refine gs_nb (fun hg => ?_) (fun hg => ?_) <;> conv => whnf) | (refine gs_b (fun hg => ?_) (fun hg => ?_) <;> conv => whnf) | refine fin1 rfl rfl ?_))
            refine wc_ends 6 (fun _ _ => False) (X := Option Addr × Nat) (fun x => [(3, .pointer (some ⟨g3, 0, none⟩)), (4, .pointer (some ⟨g4, 0, none⟩)), (5, .slice (some ⟨go, 0, none⟩) n n), (6, .slice (some adk) K ck), (7, .slice (some ⟨go2, 0, none⟩) (2 * n) (2 * n)), (8, .int .i64 (k : Int)), (9, .bool b2), (10, .slice (some ⟨gO, 0, none⟩) nc nc), (11, .int .i64 ((W2).length : Int)), (12, .bool (xi.foldl (rfX n of2 k) R)), (13, .slice x.1 ((xi.foldl (inX n of2 l k) S)).length x.2), (14, .int .i64 (v0 : Int)), (15, .int .i64 (i : Int)), (16, .int .i64 (w : Int))]) (fun x wm => OS wa.heap.size w11 wm gO nc (W2) (.slice x.1 ((xi.foldl (inX n of2 l k) S)).length x.2) ((xi.foldl (inX n of2 l k) S)) ∧ SP2 (2 * n) ((xi.foldl (inX n of2 l k) S)) ∧ OwnP (W2)) ?_ (fun _ _ h => h.elim) ?_
            · refine lp_loop tabOk (X := Nat × Option Addr × Nat) (fun x => [(3, .pointer (some ⟨g3, 0, none⟩)), (4, .pointer (some ⟨g4, 0, none⟩)), (5, .slice (some ⟨go, 0, none⟩) n n), (6, .slice (some adk) K ck), (7, .slice (some ⟨go2, 0, none⟩) (2 * n) (2 * n)), (8, .int .i64 (k : Int)), (9, .bool b2), (10, .slice (some ⟨gO, 0, none⟩) nc nc), (11, .int .i64 ((W2).length : Int)), (12, .bool ((xi.take x.1).foldl (rfX n of2 k) R)), (13, .slice x.2.1 (((xi.take x.1).foldl (inX n of2 l k) S)).length x.2.2), (14, .int .i64 (v0 : Int)), (15, .int .i64 (i : Int)), (16, .int .i64 (w : Int)), (18, .int .i64 (x.1 : Int))]) (fun x wm => x.1 ≤ xi.length ∧ OS wa.heap.size w11 wm gO nc (W2) (.slice x.2.1 (((xi.take x.1).foldl (inX n of2 l k) S)).length x.2.2) (((xi.take x.1).foldl (inX n of2 l k) S)) ∧ SP2 (2 * n) (((xi.take x.1).foldl (inX n of2 l k) S)) ∧ OwnP (W2)) (fun x => xi.length - x.1) (0, D, dc) ⟨rfl, rfl, rfl, rfl, rfl, rfl, rfl, rfl, rfl, rfl, rfl, rfl, rfl, rfl, rfl, trivial⟩ ⟨by simp, hOj, hSPj, hWPj⟩ ?_
              clear hOj hSPj hWPj hSP
              rintro ⟨j, E, ec⟩ G5 wm ⟨hj, hOm, hSPm, hWPm⟩
              simp only at hj hOm hSPm hWPm
              have hb3m := blk_up hOm.below hb3
              have hb4m := blk_up hOm.below hb4
              have hcm := rdI wm hOm.below
              by_cases hjx : j < xi.length
              · obtain ⟨y, ad3, ⟨hy⟩, e3, hyc, _, _⟩ := intsE (hRi.up (stays_I _) hOm.below) j hjx
                subst e3
                have hym : y ∈ xi := by rw [← hy]; exact mem_get hjx
                have hyn := hxiN y hym
                obtain ⟨u, rfl⟩ := Int.eq_ofNat_of_zero_le hyn.1
                have hu2 : u < 2 * n := by omega
                have hou := rdo wm hOm.below u hu2
                obtain ⟨S5, hS5⟩ : ∃ S5, S5 = ((xi.take j).foldl (inX n of2 l k) S) := ⟨_, rfl⟩
                obtain ⟨R5, hR5⟩ : ∃ R5, R5 = ((xi.take j).foldl (rfX n of2 k) R) := ⟨_, rfl⟩
                have nS5 : ((xi.take (j + 1)).foldl (inX n of2 l k) S) = inX n of2 l k S5 u := by rw [fold_take _ _ hjx, hy, ← hS5]
                have nR5 : ((xi.take (j + 1)).foldl (rfX n of2 k) R) = rfX n of2 k R5 u := by rw [fold_take _ _ hjx, hy, ← hR5]
                rw [← hS5] at hOm hSPm
                rw [← hS5, ← hR5]
                clear hS5 hR5
                have hSl := nodupI_len hSPm.1 hSPm.2
                by_cases hok : of2 u = k
                · have eS : inX n of2 l k S5 u = S5 := if_neg fun h => h.1 (by rw [Int.toNat_natCast]; exact hok)
                  have eR : rfX n of2 k R5 u = R5 := by unfold rfX; rw [Int.toNat_natCast]; simp [hok]
                  conv => whnf
                  (repeat' (first | (refine wl_Lg tabOk hb3m rfl rfl rfl rfl rfl rfl rfl (run_l tabOk ?_); conv => whnf) | (refine wl_Lg tabOk hb4m rfl rfl rfl rfl rfl rfl rfl (run_l tabOk ?_); conv => whnf) | (refine wl_L tabOk rfl rfl rfl rfl rfl rfl hcm (run_l tabOk ?_); conv => whnf) | (refine wl_L tabOk rfl rfl rfl rfl rfl rfl hyc (run_l tabOk ?_); conv => whnf) | (refine wl_L tabOk rfl rfl rfl rfl rfl rfl hou (run_l tabOk ?_); conv => whnf) | (refine wl_Xn tabOk 24 1 rfl rfl rfl rfl rfl rfl rfl (by omega) (run_l tabOk ?_); conv => whnf) | (refine wl_Xn tabOk 3 1 rfl rfl rfl rfl rfl rfl rfl (by omega) (run_l tabOk ?_); conv => whnf) | (refine wl_add rfl rfl rfl rfl rfl rfl (by omega) (by omega) (run_l tabOk ?_); conv => whnf) | (refine wl_sub rfl rfl rfl rfl rfl rfl (by omega) (by omega) (run_l tabOk ?_); conv => whnf) | (refine wl_cvA tabOk rfl rfl rfl (by simp only [inK]; omega) rfl rfl rfl (run_l tabOk ?_); conv => whnf) | (refine wl_cvB tabOk rfl rfl rfl rfl rfl rfl (run_l tabOk ?_); conv => whnf) | (refine wl_rem rfl rfl rfl rfl rfl rfl (by omega) (by omega) (fun r hr hr0 hr1 hr2 => run_l tabOk ?_); conv => whnf) | (refine wl_quo rfl rfl rfl rfl rfl rfl (by omega) (by omega) (by simp only [inK]; omega) (run_l tabOk ?_); conv => whnf) | (refine wl_mul rfl rfl rfl rfl rfl rfl (by omega) (by omega) (run_l tabOk ?_); conv => whnf) | (refine gs_dt (by first | assumption | omega) ?_; conv => whnf) | (refine gs_df (by first | assumption | omega) ?_; conv => whnf) | (refine gs_t (by assumption) ?_; conv => whnf) | (refine gs_f (by assumption) ?_; conv => whnf) | (refine gs_d (fun hg => ?_) (fun hg => ?_) <;> conv => whnf) | (refine gs_n (fun hg => ?_) (fun hg => ?_) <;> conv => whnf) | (refine gs_nb (fun hg => ?_) (fun hg => ?_) <;> conv => whnf) | (refine gs_b (fun hg => ?_) (fun hg => ?_) <;> conv => whnf) | refine fin1 rfl rfl ?_))
                  exact ⟨(j + 1, E, ec), ⟨rfl, rfl, rfl, rfl, rfl, rfl, rfl, rfl, rfl, congrArg Value.bool (nR5.trans eR).symm, congrArg (fun (T : List Int) => Value.slice E T.length ec) (nS5.trans eS).symm, rfl, rfl, rfl, rfl, trivial⟩, ⟨by simp only; omega, by simp only; rw [nS5, eS]; exact hOm, by simp only; rw [nS5, eS]; exact hSPm, hWPm⟩, by simp only; omega⟩
                by_cases hun : n ≤ u
                · have eS : inX n of2 l k S5 u = S5 := if_neg fun h => by have := h.2.1; rw [Int.toNat_natCast] at this; omega
                  have eR : rfX n of2 k R5 u = true := by unfold rfX; rw [Int.toNat_natCast]; simp [hok, hun]
                  conv => whnf
                  (repeat' (first | (refine wl_Lg tabOk hb3m rfl rfl rfl rfl rfl rfl rfl (run_l tabOk ?_); conv => whnf) | (refine wl_Lg tabOk hb4m rfl rfl rfl rfl rfl rfl rfl (run_l tabOk ?_); conv => whnf) | (refine wl_L tabOk rfl rfl rfl rfl rfl rfl hcm (run_l tabOk ?_); conv => whnf) | (refine wl_L tabOk rfl rfl rfl rfl rfl rfl hyc (run_l tabOk ?_); conv => whnf) | (refine wl_L tabOk rfl rfl rfl rfl rfl rfl hou (run_l tabOk ?_); conv => whnf) | (refine wl_Xn tabOk 24 1 rfl rfl rfl rfl rfl rfl rfl (by omega) (run_l tabOk ?_); conv => whnf) | (refine wl_Xn tabOk 3 1 rfl rfl rfl rfl rfl rfl rfl (by omega) (run_l tabOk ?_); conv => whnf) | (refine wl_add rfl rfl rfl rfl rfl rfl (by omega) (by omega) (run_l tabOk ?_); conv => whnf) | (refine wl_sub rfl rfl rfl rfl rfl rfl (by omega) (by omega) (run_l tabOk ?_); conv => whnf) | (refine wl_cvA tabOk rfl rfl rfl (by simp only [inK]; omega) rfl rfl rfl (run_l tabOk ?_); conv => whnf) | (refine wl_cvB tabOk rfl rfl rfl rfl rfl rfl (run_l tabOk ?_); conv => whnf) | (refine wl_rem rfl rfl rfl rfl rfl rfl (by omega) (by omega) (fun r hr hr0 hr1 hr2 => run_l tabOk ?_); conv => whnf) | (refine wl_quo rfl rfl rfl rfl rfl rfl (by omega) (by omega) (by simp only [inK]; omega) (run_l tabOk ?_); conv => whnf) | (refine wl_mul rfl rfl rfl rfl rfl rfl (by omega) (by omega) (run_l tabOk ?_); conv => whnf) | (refine gs_dt (by first | assumption | omega) ?_; conv => whnf) | (refine gs_df (by first | assumption | omega) ?_; conv => whnf) | (refine gs_t (by assumption) ?_; conv => whnf) | (refine gs_f (by assumption) ?_; conv => whnf) | (refine gs_d (fun hg => ?_) (fun hg => ?_) <;> conv => whnf) | (refine gs_n (fun hg => ?_) (fun hg => ?_) <;> conv => whnf) | (refine gs_nb (fun hg => ?_) (fun hg => ?_) <;> conv => whnf) | (refine gs_b (fun hg => ?_) (fun hg => ?_) <;> conv => whnf) | refine fin1 rfl rfl ?_))
                  exact ⟨(j + 1, E, ec), ⟨rfl, rfl, rfl, rfl, rfl, rfl, rfl, rfl, rfl, congrArg Value.bool (nR5.trans eR).symm, congrArg (fun (T : List Int) => Value.slice E T.length ec) (nS5.trans eS).symm, rfl, rfl, rfl, rfl, trivial⟩, ⟨by simp only; omega, by simp only; rw [nS5, eS]; exact hOm, by simp only; rw [nS5, eS]; exact hSPm, hWPm⟩, by simp only; omega⟩
                have hun : u < n := by omega
                have eR : rfX n of2 k R5 u = R5 := by unfold rfX; rw [Int.toNat_natCast]; simp; omega
                have hlu := rdl wm hOm.below u hun
                have hlg := hLge u hun
                have hll := hLlt u hun
                have hrE := hOm.row.rowAt.2.2
                conv => whnf
                (repeat' (first | (refine wl_Lg tabOk hb3m rfl rfl rfl rfl rfl rfl rfl (run_l tabOk ?_); conv => whnf) | (refine wl_Lg tabOk hb4m rfl rfl rfl rfl rfl rfl rfl (run_l tabOk ?_); conv => whnf) | (refine wl_L tabOk rfl rfl rfl rfl rfl rfl hcm (run_l tabOk ?_); conv => whnf) | (refine wl_L tabOk rfl rfl rfl rfl rfl rfl hyc (run_l tabOk ?_); conv => whnf) | (refine wl_L tabOk rfl rfl rfl rfl rfl rfl hou (run_l tabOk ?_); conv => whnf) | (refine wl_L tabOk rfl rfl rfl rfl rfl rfl hlu (run_l tabOk ?_); conv => whnf) | (refine wl_Xn tabOk 24 1 rfl rfl rfl rfl rfl rfl rfl (by omega) (run_l tabOk ?_); conv => whnf) | (refine wl_Xn tabOk 3 1 rfl rfl rfl rfl rfl rfl rfl (by omega) (run_l tabOk ?_); conv => whnf) | (refine gs_df (p := (of2 u : Int) = (k : Int)) (by omega) ?_; (conv => whnf)) | (refine wl_add rfl rfl rfl rfl rfl rfl (by omega) (by omega) (run_l tabOk ?_); conv => whnf) | (refine wl_sub rfl rfl rfl rfl rfl rfl (by omega) (by omega) (run_l tabOk ?_); conv => whnf) | (refine wl_cvA tabOk rfl rfl rfl (by simp only [inK]; omega) rfl rfl rfl (run_l tabOk ?_); conv => whnf) | (refine wl_cvB tabOk rfl rfl rfl rfl rfl rfl (run_l tabOk ?_); conv => whnf) | (refine wl_rem rfl rfl rfl rfl rfl rfl (by omega) (by omega) (fun r hr hr0 hr1 hr2 => run_l tabOk ?_); conv => whnf) | (refine wl_quo rfl rfl rfl rfl rfl rfl (by omega) (by omega) (by simp only [inK]; omega) (run_l tabOk ?_); conv => whnf) | (refine wl_mul rfl rfl rfl rfl rfl rfl (by omega) (by omega) (run_l tabOk ?_); conv => whnf) | (refine gs_dt (by first | assumption | omega) ?_; conv => whnf) | (refine gs_df (by first | assumption | omega) ?_; conv => whnf) | (refine gs_t (by assumption) ?_; conv => whnf) | (refine gs_f (by assumption) ?_; conv => whnf) | (refine gs_d (fun hg => ?_) (fun hg => ?_) <;> conv => whnf) | (refine gs_n (fun hg => ?_) (fun hg => ?_) <;> conv => whnf) | (refine gs_nb (fun hg => ?_) (fun hg => ?_) <;> conv => whnf) | (refine gs_b (fun hg => ?_) (fun hg => ?_) <;> conv => whnf) | refine fin1 rfl rfl ?_))
                refine wc_ends 8 (fun _ _ => False) (X := Unit) (fun _ => [(3, .pointer (some ⟨g3, 0, none⟩)), (4, .pointer (some ⟨g4, 0, none⟩)), (5, .slice (some ⟨go, 0, none⟩) n n), (6, .slice (some adk) K ck), (7, .slice (some ⟨go2, 0, none⟩) (2 * n) (2 * n)), (8, .int .i64 (k : Int)), (9, .bool b2), (10, .slice (some ⟨gO, 0, none⟩) nc nc), (11, .int .i64 ((W2).length : Int)), (12, .bool R5), (13, .slice E (S5).length ec), (14, .int .i64 (v0 : Int)), (15, .int .i64 (i : Int)), (16, .int .i64 (w : Int)), (18, .int .i64 (j : Int)), (19, .int .i64 (u : Int)), (20, .bool (decide (l u < 0 ∨ l u ∈ S5)))]) (fun _ wn => wn = wm ∨ Below wm.heap.size wm wn) ?_ (fun _ _ h => h.elim) ?_
                · refine lp_loop tabOk (X := Nat) (fun m => [(3, .pointer (some ⟨g3, 0, none⟩)), (4, .pointer (some ⟨g4, 0, none⟩)), (5, .slice (some ⟨go, 0, none⟩) n n), (6, .slice (some adk) K ck), (7, .slice (some ⟨go2, 0, none⟩) (2 * n) (2 * n)), (8, .int .i64 (k : Int)), (9, .bool b2), (10, .slice (some ⟨gO, 0, none⟩) nc nc), (11, .int .i64 ((W2).length : Int)), (12, .bool R5), (13, .slice E (S5).length ec), (14, .int .i64 (v0 : Int)), (15, .int .i64 (i : Int)), (16, .int .i64 (w : Int)), (18, .int .i64 (j : Int)), (19, .int .i64 (u : Int)), (20, .bool (decide (l u < 0 ∨ l u ∈ S5.take m))), (21, .int .i64 (m : Int))]) (fun m wn => m ≤ S5.length ∧ Below wm.heap.size wm wn) (fun m => S5.length - m) 0 ⟨rfl, rfl, rfl, rfl, rfl, rfl, rfl, rfl, rfl, rfl, rfl, rfl, rfl, rfl, rfl, rfl, congrArg Value.bool (by simp), rfl, trivial⟩ ⟨by omega, Below.refl _ _⟩ ?_
                  rintro m G6 wn ⟨hm, hBn⟩
                  have hlun := cell_up hBn hlu
                  by_cases hmS : m < S5.length
                  · obtain ⟨z, ad4, ⟨hz⟩, e4, hzc, _, _⟩ := intsE (hrE.up (stays_I _) hBn) m hmS
                    subst e4
                    have htk : S5.take (m + 1) = S5.take m ++ [z] := by rw [← hz, getElem!_pos S5 m hmS]; simp
                    have hkn : (decide (l u < 0 ∨ l u ∈ S5.take (m + 1))) = (decide (l u < 0 ∨ l u ∈ S5.take m) || decide (z = l u)) := by
                      have h4 : (l u < 0 ∨ l u ∈ S5.take m ++ [z]) ↔ (l u < 0 ∨ l u ∈ S5.take m) ∨ z = l u := by rw [List.mem_append, List.mem_singleton, eq_comm (a := l u), or_assoc]
                      rw [htk, decide_eq_decide.2 h4]
                      exact Bool.decide_or _ _
                    obtain ⟨kb, hkb⟩ : ∃ kb, kb = decide (l u < 0 ∨ l u ∈ S5.take m) := ⟨_, rfl⟩
                    rw [← hkb] at hkn
                    rw [← hkb]
                    clear hkb
                    have hkc : (kb = true) ∨ (kb = false) := by cases kb <;> simp
                    rcases hkc with rfl | rfl
                    · conv => whnf
                      (repeat' (first | (refine wl_add rfl rfl rfl rfl rfl rfl (by omega) (by omega) (run_l tabOk ?_); conv => whnf) | (refine wl_sub rfl rfl rfl rfl rfl rfl (by omega) (by omega) (run_l tabOk ?_); conv => whnf) | (refine wl_cvA tabOk rfl rfl rfl (by simp only [inK]; omega) rfl rfl rfl (run_l tabOk ?_); conv => whnf) | (refine wl_cvB tabOk rfl rfl rfl rfl rfl rfl (run_l tabOk ?_); conv => whnf) | (refine wl_rem rfl rfl rfl rfl rfl rfl (by omega) (by omega) (fun r hr hr0 hr1 hr2 => run_l tabOk ?_); conv => whnf) | (refine wl_quo rfl rfl rfl rfl rfl rfl (by omega) (by omega) (by simp only [inK]; omega) (run_l tabOk ?_); conv => whnf) | (refine wl_mul rfl rfl rfl rfl rfl rfl (by omega) (by omega) (run_l tabOk ?_); conv => whnf) | (refine gs_dt (by first | assumption | omega) ?_; conv => whnf) | (refine gs_df (by first | assumption | omega) ?_; conv => whnf) | (refine gs_t (by assumption) ?_; conv => whnf) | (refine gs_f (by assumption) ?_; conv => whnf) | (refine gs_d (fun hg => ?_) (fun hg => ?_) <;> conv => whnf) | (refine gs_n (fun hg => ?_) (fun hg => ?_) <;> conv => whnf) | (refine gs_nb (fun hg => ?_) (fun hg => ?_) <;> conv => whnf) | (refine gs_b (fun hg => ?_) (fun hg => ?_) <;> conv => whnf) | refine fin1 rfl rfl ?_))
                      refine wc_qr tabOk mixed (by kernel_rfl) ?_; conv => whnf
                      (repeat' (first | (refine wq_L tabOk rfl rfl rfl rfl rfl rfl hzc (run_q tabOk ?_); conv => whnf) | (refine wq_L tabOk rfl rfl rfl rfl rfl rfl hlun (run_q tabOk ?_); conv => whnf) | (refine wq_Xn tabOk 3 1 rfl rfl rfl rfl rfl rfl rfl (by omega) (run_q tabOk ?_); conv => whnf) | (refine wq_add rfl rfl rfl rfl rfl rfl (by omega) (by omega) (run_q tabOk ?_); conv => whnf) | (refine wq_sub rfl rfl rfl rfl rfl rfl (by omega) (by omega) (run_q tabOk ?_); conv => whnf) | (refine wq_cvA tabOk rfl rfl rfl (by simp only [inK]; omega) rfl rfl rfl (run_q tabOk ?_); conv => whnf) | (refine wq_cvB tabOk rfl rfl rfl rfl rfl rfl (run_q tabOk ?_); conv => whnf) | (refine wq_rem rfl rfl rfl rfl rfl rfl (by omega) (by omega) (fun r hr hr0 hr1 hr2 => run_q tabOk ?_); conv => whnf) | (refine wq_quo rfl rfl rfl rfl rfl rfl (by omega) (by omega) (by simp only [inK]; omega) (run_q tabOk ?_); conv => whnf) | (refine wq_mul rfl rfl rfl rfl rfl rfl (by omega) (by omega) (run_q tabOk ?_); conv => whnf) | (refine gs_dt (by first | assumption | omega) ?_; conv => whnf) | (refine gs_df (by first | assumption | omega) ?_; conv => whnf) | (refine gs_t (by assumption) ?_; conv => whnf) | (refine gs_f (by assumption) ?_; conv => whnf) | (refine gs_d (fun hg => ?_) (fun hg => ?_) <;> conv => whnf) | (refine gs_n (fun hg => ?_) (fun hg => ?_) <;> conv => whnf) | (refine gs_nb (fun hg => ?_) (fun hg => ?_) <;> conv => whnf) | (refine gs_b (fun hg => ?_) (fun hg => ?_) <;> conv => whnf)))
                      intro wq hBq
                      conv => whnf
                      (repeat' (first | (refine wl_add rfl rfl rfl rfl rfl rfl (by omega) (by omega) (run_l tabOk ?_); conv => whnf) | (refine wl_sub rfl rfl rfl rfl rfl rfl (by omega) (by omega) (run_l tabOk ?_); conv => whnf) | (refine wl_cvA tabOk rfl rfl rfl (by simp only [inK]; omega) rfl rfl rfl (run_l tabOk ?_); conv => whnf) | (refine wl_cvB tabOk rfl rfl rfl rfl rfl rfl (run_l tabOk ?_); conv => whnf) | (refine wl_rem rfl rfl rfl rfl rfl rfl (by omega) (by omega) (fun r hr hr0 hr1 hr2 => run_l tabOk ?_); conv => whnf) | (refine wl_quo rfl rfl rfl rfl rfl rfl (by omega) (by omega) (by simp only [inK]; omega) (run_l tabOk ?_); conv => whnf) | (refine wl_mul rfl rfl rfl rfl rfl rfl (by omega) (by omega) (run_l tabOk ?_); conv => whnf) | (refine gs_dt (by first | assumption | omega) ?_; conv => whnf) | (refine gs_df (by first | assumption | omega) ?_; conv => whnf) | (refine gs_t (by assumption) ?_; conv => whnf) | (refine gs_f (by assumption) ?_; conv => whnf) | (refine gs_d (fun hg => ?_) (fun hg => ?_) <;> conv => whnf) | (refine gs_n (fun hg => ?_) (fun hg => ?_) <;> conv => whnf) | (refine gs_nb (fun hg => ?_) (fun hg => ?_) <;> conv => whnf) | (refine gs_b (fun hg => ?_) (fun hg => ?_) <;> conv => whnf) | refine fin1 rfl rfl ?_))
                      exact ⟨m + 1, ⟨rfl, rfl, rfl, rfl, rfl, rfl, rfl, rfl, rfl, rfl, rfl, rfl, rfl, rfl, rfl, rfl, congrArg Value.bool (by rw [hkn]; simp), rfl, trivial⟩, ⟨by omega, bup hBn hBq⟩, by omega⟩
                    · conv => whnf
                      (repeat' (first | (refine wl_add rfl rfl rfl rfl rfl rfl (by omega) (by omega) (run_l tabOk ?_); conv => whnf) | (refine wl_sub rfl rfl rfl rfl rfl rfl (by omega) (by omega) (run_l tabOk ?_); conv => whnf) | (refine wl_cvA tabOk rfl rfl rfl (by simp only [inK]; omega) rfl rfl rfl (run_l tabOk ?_); conv => whnf) | (refine wl_cvB tabOk rfl rfl rfl rfl rfl rfl (run_l tabOk ?_); conv => whnf) | (refine wl_rem rfl rfl rfl rfl rfl rfl (by omega) (by omega) (fun r hr hr0 hr1 hr2 => run_l tabOk ?_); conv => whnf) | (refine wl_quo rfl rfl rfl rfl rfl rfl (by omega) (by omega) (by simp only [inK]; omega) (run_l tabOk ?_); conv => whnf) | (refine wl_mul rfl rfl rfl rfl rfl rfl (by omega) (by omega) (run_l tabOk ?_); conv => whnf) | (refine gs_dt (by first | assumption | omega) ?_; conv => whnf) | (refine gs_df (by first | assumption | omega) ?_; conv => whnf) | (refine gs_t (by assumption) ?_; conv => whnf) | (refine gs_f (by assumption) ?_; conv => whnf) | (refine gs_d (fun hg => ?_) (fun hg => ?_) <;> conv => whnf) | (refine gs_n (fun hg => ?_) (fun hg => ?_) <;> conv => whnf) | (refine gs_nb (fun hg => ?_) (fun hg => ?_) <;> conv => whnf) | (refine gs_b (fun hg => ?_) (fun hg => ?_) <;> conv => whnf) | refine fin1 rfl rfl ?_))
                      refine wc_qr tabOk mixed (by kernel_rfl) ?_; conv => whnf
                      (repeat' (first | (refine wq_L tabOk rfl rfl rfl rfl rfl rfl hzc (run_q tabOk ?_); conv => whnf) | (refine wq_L tabOk rfl rfl rfl rfl rfl rfl hlun (run_q tabOk ?_); conv => whnf) | (refine wq_Xn tabOk 3 1 rfl rfl rfl rfl rfl rfl rfl (by omega) (run_q tabOk ?_); conv => whnf) | (refine wq_add rfl rfl rfl rfl rfl rfl (by omega) (by omega) (run_q tabOk ?_); conv => whnf) | (refine wq_sub rfl rfl rfl rfl rfl rfl (by omega) (by omega) (run_q tabOk ?_); conv => whnf) | (refine wq_cvA tabOk rfl rfl rfl (by simp only [inK]; omega) rfl rfl rfl (run_q tabOk ?_); conv => whnf) | (refine wq_cvB tabOk rfl rfl rfl rfl rfl rfl (run_q tabOk ?_); conv => whnf) | (refine wq_rem rfl rfl rfl rfl rfl rfl (by omega) (by omega) (fun r hr hr0 hr1 hr2 => run_q tabOk ?_); conv => whnf) | (refine wq_quo rfl rfl rfl rfl rfl rfl (by omega) (by omega) (by simp only [inK]; omega) (run_q tabOk ?_); conv => whnf) | (refine wq_mul rfl rfl rfl rfl rfl rfl (by omega) (by omega) (run_q tabOk ?_); conv => whnf) | (refine gs_dt (by first | assumption | omega) ?_; conv => whnf) | (refine gs_df (by first | assumption | omega) ?_; conv => whnf) | (refine gs_t (by assumption) ?_; conv => whnf) | (refine gs_f (by assumption) ?_; conv => whnf) | (refine gs_d (fun hg => ?_) (fun hg => ?_) <;> conv => whnf) | (refine gs_n (fun hg => ?_) (fun hg => ?_) <;> conv => whnf) | (refine gs_nb (fun hg => ?_) (fun hg => ?_) <;> conv => whnf) | (refine gs_b (fun hg => ?_) (fun hg => ?_) <;> conv => whnf)))
                      intro wq hBq
                      conv => whnf
                      (repeat' (first | (refine wl_add rfl rfl rfl rfl rfl rfl (by omega) (by omega) (run_l tabOk ?_); conv => whnf) | (refine wl_sub rfl rfl rfl rfl rfl rfl (by omega) (by omega) (run_l tabOk ?_); conv => whnf) | (refine wl_cvA tabOk rfl rfl rfl (by simp only [inK]; omega) rfl rfl rfl (run_l tabOk ?_); conv => whnf) | (refine wl_cvB tabOk rfl rfl rfl rfl rfl rfl (run_l tabOk ?_); conv => whnf) | (refine wl_rem rfl rfl rfl rfl rfl rfl (by omega) (by omega) (fun r hr hr0 hr1 hr2 => run_l tabOk ?_); conv => whnf) | (refine wl_quo rfl rfl rfl rfl rfl rfl (by omega) (by omega) (by simp only [inK]; omega) (run_l tabOk ?_); conv => whnf) | (refine wl_mul rfl rfl rfl rfl rfl rfl (by omega) (by omega) (run_l tabOk ?_); conv => whnf) | (refine gs_dt (by first | assumption | omega) ?_; conv => whnf) | (refine gs_df (by first | assumption | omega) ?_; conv => whnf) | (refine gs_t (by assumption) ?_; conv => whnf) | (refine gs_f (by assumption) ?_; conv => whnf) | (refine gs_d (fun hg => ?_) (fun hg => ?_) <;> conv => whnf) | (refine gs_n (fun hg => ?_) (fun hg => ?_) <;> conv => whnf) | (refine gs_nb (fun hg => ?_) (fun hg => ?_) <;> conv => whnf) | (refine gs_b (fun hg => ?_) (fun hg => ?_) <;> conv => whnf) | refine fin1 rfl rfl ?_))
                      exact ⟨m + 1, ⟨rfl, rfl, rfl, rfl, rfl, rfl, rfl, rfl, rfl, rfl, rfl, rfl, rfl, rfl, rfl, rfl, congrArg Value.bool (by rw [hkn]; simp), rfl, trivial⟩, ⟨by omega, bup hBn hBq⟩, by omega⟩
                  · have hml : m = S5.length := by omega
                    subst hml
                    have hte : decide (l u < 0 ∨ l u ∈ S5.take S5.length) = decide (l u < 0 ∨ l u ∈ S5) := by rw [List.take_length]
                    conv => whnf
                    (repeat' (first | (refine wl_add rfl rfl rfl rfl rfl rfl (by omega) (by omega) (run_l tabOk ?_); conv => whnf) | (refine wl_sub rfl rfl rfl rfl rfl rfl (by omega) (by omega) (run_l tabOk ?_); conv => whnf) | (refine wl_cvA tabOk rfl rfl rfl (by simp only [inK]; omega) rfl rfl rfl (run_l tabOk ?_); conv => whnf) | (refine wl_cvB tabOk rfl rfl rfl rfl rfl rfl (run_l tabOk ?_); conv => whnf) | (refine wl_rem rfl rfl rfl rfl rfl rfl (by omega) (by omega) (fun r hr hr0 hr1 hr2 => run_l tabOk ?_); conv => whnf) | (refine wl_quo rfl rfl rfl rfl rfl rfl (by omega) (by omega) (by simp only [inK]; omega) (run_l tabOk ?_); conv => whnf) | (refine wl_mul rfl rfl rfl rfl rfl rfl (by omega) (by omega) (run_l tabOk ?_); conv => whnf) | (refine gs_dt (by first | assumption | omega) ?_; conv => whnf) | (refine gs_df (by first | assumption | omega) ?_; conv => whnf) | (refine gs_t (by assumption) ?_; conv => whnf) | (refine gs_f (by assumption) ?_; conv => whnf) | (refine gs_d (fun hg => ?_) (fun hg => ?_) <;> conv => whnf) | (refine gs_n (fun hg => ?_) (fun hg => ?_) <;> conv => whnf) | (refine gs_nb (fun hg => ?_) (fun hg => ?_) <;> conv => whnf) | (refine gs_b (fun hg => ?_) (fun hg => ?_) <;> conv => whnf) | refine fin1 rfl rfl ?_))
                    exact ⟨rfl, (), ⟨rfl, rfl, rfl, rfl, rfl, rfl, rfl, rfl, rfl, rfl, rfl, rfl, rfl, rfl, rfl, rfl, congrArg Value.bool hte, trivial⟩, .inr hBn⟩
                · rintro _ G6 wn hBn
                  have hBn : Below wm.heap.size wm wn := hBn.elim (fun e => by rw [e]; exact Below.refl _ _) id
                  have hOn := hOm.up hBn
                  by_cases hkn : l u < 0 ∨ l u ∈ S5
                  · have eS : inX n of2 l k S5 u = S5 := by
                      unfold inX
                      rw [Int.toNat_natCast]
                      split
                      · rename_i hc
                        exact addI_in (hkn.resolve_left (by omega))
                      · rfl
                    rw [decide_eq_true hkn]
                    conv => whnf
                    (repeat' (first | (refine wl_add rfl rfl rfl rfl rfl rfl (by omega) (by omega) (run_l tabOk ?_); conv => whnf) | (refine wl_sub rfl rfl rfl rfl rfl rfl (by omega) (by omega) (run_l tabOk ?_); conv => whnf) | (refine wl_cvA tabOk rfl rfl rfl (by simp only [inK]; omega) rfl rfl rfl (run_l tabOk ?_); conv => whnf) | (refine wl_cvB tabOk rfl rfl rfl rfl rfl rfl (run_l tabOk ?_); conv => whnf) | (refine wl_rem rfl rfl rfl rfl rfl rfl (by omega) (by omega) (fun r hr hr0 hr1 hr2 => run_l tabOk ?_); conv => whnf) | (refine wl_quo rfl rfl rfl rfl rfl rfl (by omega) (by omega) (by simp only [inK]; omega) (run_l tabOk ?_); conv => whnf) | (refine wl_mul rfl rfl rfl rfl rfl rfl (by omega) (by omega) (run_l tabOk ?_); conv => whnf) | (refine gs_dt (by first | assumption | omega) ?_; conv => whnf) | (refine gs_df (by first | assumption | omega) ?_; conv => whnf) | (refine gs_t (by assumption) ?_; conv => whnf) | (refine gs_f (by assumption) ?_; conv => whnf) | (refine gs_d (fun hg => ?_) (fun hg => ?_) <;> conv => whnf) | (refine gs_n (fun hg => ?_) (fun hg => ?_) <;> conv => whnf) | (refine gs_nb (fun hg => ?_) (fun hg => ?_) <;> conv => whnf) | (refine gs_b (fun hg => ?_) (fun hg => ?_) <;> conv => whnf) | refine fin1 rfl rfl ?_))
                    exact ⟨(j + 1, E, ec), ⟨rfl, rfl, rfl, rfl, rfl, rfl, rfl, rfl, rfl, congrArg Value.bool (nR5.trans eR).symm, congrArg (fun (T : List Int) => Value.slice E T.length ec) (nS5.trans eS).symm, rfl, rfl, rfl, rfl, trivial⟩, ⟨by simp only; omega, by simp only; rw [nS5, eS]; exact hOn, by simp only; rw [nS5, eS]; exact hSPm, hWPm⟩, by simp only; omega⟩
                  · have hge0 : 0 ≤ l u := by apply Classical.byContradiction; intro hh; exact hkn (.inl (by omega))
                    have hni2 : l u ∉ S5 := fun hh => hkn (.inr hh)
                    have eS : inX n of2 l k S5 u = S5 ++ [l u] := by
                      unfold inX
                      rw [Int.toNat_natCast, if_pos ⟨hok, hun, hge0⟩]
                      exact if_neg hni2
                    have hlun := cell_up hBn hlu
                    have hPn : SP2 (2 * n) (inX n of2 l k S5 u) := SP2.inX hLlt hSPm
                    rw [decide_eq_false hkn]
                    conv => whnf
                    (repeat' (first | (refine wl_L tabOk rfl rfl rfl rfl rfl rfl hlun (run_l tabOk ?_); conv => whnf) | (refine wl_Xn tabOk 3 1 rfl rfl rfl rfl rfl rfl rfl (by omega) (run_l tabOk ?_); conv => whnf) | (refine wl_add rfl rfl rfl rfl rfl rfl (by omega) (by omega) (run_l tabOk ?_); conv => whnf) | (refine wl_sub rfl rfl rfl rfl rfl rfl (by omega) (by omega) (run_l tabOk ?_); conv => whnf) | (refine wl_cvA tabOk rfl rfl rfl (by simp only [inK]; omega) rfl rfl rfl (run_l tabOk ?_); conv => whnf) | (refine wl_cvB tabOk rfl rfl rfl rfl rfl rfl (run_l tabOk ?_); conv => whnf) | (refine wl_rem rfl rfl rfl rfl rfl rfl (by omega) (by omega) (fun r hr hr0 hr1 hr2 => run_l tabOk ?_); conv => whnf) | (refine wl_quo rfl rfl rfl rfl rfl rfl (by omega) (by omega) (by simp only [inK]; omega) (run_l tabOk ?_); conv => whnf) | (refine wl_mul rfl rfl rfl rfl rfl rfl (by omega) (by omega) (run_l tabOk ?_); conv => whnf) | (refine gs_dt (by first | assumption | omega) ?_; conv => whnf) | (refine gs_df (by first | assumption | omega) ?_; conv => whnf) | (refine gs_t (by assumption) ?_; conv => whnf) | (refine gs_f (by assumption) ?_; conv => whnf) | (refine gs_d (fun hg => ?_) (fun hg => ?_) <;> conv => whnf) | (refine gs_n (fun hg => ?_) (fun hg => ?_) <;> conv => whnf) | (refine gs_nb (fun hg => ?_) (fun hg => ?_) <;> conv => whnf) | (refine gs_b (fun hg => ?_) (fun hg => ?_) <;> conv => whnf) | refine fin1 rfl rfl ?_))
                    refine wl_bs tabOk 3 1 rfl rfl rfl rfl rfl rfl rfl rfl rfl rfl ?_
                    intro gn w2 hn2
                    refine run_l tabOk ?_
                    conv => whnf
                    have hO2 := hOn.up hn2.below
                    refine wl_ap tabOk 3 1 8 hO2.row.own.choose_spec.1 hn2.blk rfl rfl rfl rfl rfl rfl rfl rfl rfl rfl rfl rfl (by simp [Value.oneCell']) (by omega) (by omega) hO2.ge ?_
                    intro E2 ec2 w4 hown4 hg4 hob4
                    have hpush := gints_push hO2.row (fun w' hw' => hO2.row.own.choose_spec.2 w' (by simp)) hown4 hg4 hob4 (y := l u) (by omega)
                    refine run_l tabOk ?_
                    conv => whnf
                    (repeat' (first | (refine wl_add rfl rfl rfl rfl rfl rfl (by omega) (by omega) (run_l tabOk ?_); conv => whnf) | (refine wl_sub rfl rfl rfl rfl rfl rfl (by omega) (by omega) (run_l tabOk ?_); conv => whnf) | (refine wl_cvA tabOk rfl rfl rfl (by simp only [inK]; omega) rfl rfl rfl (run_l tabOk ?_); conv => whnf) | (refine wl_cvB tabOk rfl rfl rfl rfl rfl rfl (run_l tabOk ?_); conv => whnf) | (refine wl_rem rfl rfl rfl rfl rfl rfl (by omega) (by omega) (fun r hr hr0 hr1 hr2 => run_l tabOk ?_); conv => whnf) | (refine wl_quo rfl rfl rfl rfl rfl rfl (by omega) (by omega) (by simp only [inK]; omega) (run_l tabOk ?_); conv => whnf) | (refine wl_mul rfl rfl rfl rfl rfl rfl (by omega) (by omega) (run_l tabOk ?_); conv => whnf) | (refine gs_dt (by first | assumption | omega) ?_; conv => whnf) | (refine gs_df (by first | assumption | omega) ?_; conv => whnf) | (refine gs_t (by assumption) ?_; conv => whnf) | (refine gs_f (by assumption) ?_; conv => whnf) | (refine gs_d (fun hg => ?_) (fun hg => ?_) <;> conv => whnf) | (refine gs_n (fun hg => ?_) (fun hg => ?_) <;> conv => whnf) | (refine gs_nb (fun hg => ?_) (fun hg => ?_) <;> conv => whnf) | (refine gs_b (fun hg => ?_) (fun hg => ?_) <;> conv => whnf) | refine fin1 rfl rfl ?_))
                    have hsl : (((xi.take (j + 1)).foldl (inX n of2 l k) S)).length = S5.length + 1 := by rw [nS5, eS]; simp
                    refine ⟨(j + 1, E2, ec2), ⟨rfl, rfl, rfl, rfl, rfl, rfl, rfl, rfl, rfl, congrArg Value.bool (nR5.trans eR).symm, congrArg (fun (m : Nat) => Value.slice E2 m ec2) hsl.symm, rfl, rfl, rfl, rfl, trivial⟩, ⟨by simp only; omega, ?_, by simp only; rw [nS5]; exact hPn, hWPm⟩, by simp only; omega⟩
                    simp only
                    rw [hsl, nS5, eS]
                    exact hO2.push hgO.2 (by have := hBa.size; omega) hg4 hpush
              · have hjl : j = xi.length := by omega
                subst hjl
                rw [List.take_length] at hOm hSPm ⊢
                conv => whnf
                (repeat' (first | (refine wl_Lg tabOk hb3m rfl rfl rfl rfl rfl rfl rfl (run_l tabOk ?_); conv => whnf) | (refine wl_Lg tabOk hb4m rfl rfl rfl rfl rfl rfl rfl (run_l tabOk ?_); conv => whnf) | (refine wl_L tabOk rfl rfl rfl rfl rfl rfl hcm (run_l tabOk ?_); conv => whnf) | (refine wl_Xn tabOk 24 1 rfl rfl rfl rfl rfl rfl rfl (by omega) (run_l tabOk ?_); conv => whnf) | (refine wl_Xn tabOk 3 1 rfl rfl rfl rfl rfl rfl rfl (by omega) (run_l tabOk ?_); conv => whnf) | (refine wl_add rfl rfl rfl rfl rfl rfl (by omega) (by omega) (run_l tabOk ?_); conv => whnf) | (refine wl_sub rfl rfl rfl rfl rfl rfl (by omega) (by omega) (run_l tabOk ?_); conv => whnf) | (refine wl_cvA tabOk rfl rfl rfl (by simp only [inK]; omega) rfl rfl rfl (run_l tabOk ?_); conv => whnf) | (refine wl_cvB tabOk rfl rfl rfl rfl rfl rfl (run_l tabOk ?_); conv => whnf) | (refine wl_rem rfl rfl rfl rfl rfl rfl (by omega) (by omega) (fun r hr hr0 hr1 hr2 => run_l tabOk ?_); conv => whnf) | (refine wl_quo rfl rfl rfl rfl rfl rfl (by omega) (by omega) (by simp only [inK]; omega) (run_l tabOk ?_); conv => whnf) | (refine wl_mul rfl rfl rfl rfl rfl rfl (by omega) (by omega) (run_l tabOk ?_); conv => whnf) | (refine gs_dt (by first | assumption | omega) ?_; conv => whnf) | (refine gs_df (by first | assumption | omega) ?_; conv => whnf) | (refine gs_t (by assumption) ?_; conv => whnf) | (refine gs_f (by assumption) ?_; conv => whnf) | (refine gs_d (fun hg => ?_) (fun hg => ?_) <;> conv => whnf) | (refine gs_n (fun hg => ?_) (fun hg => ?_) <;> conv => whnf) | (refine gs_nb (fun hg => ?_) (fun hg => ?_) <;> conv => whnf) | (refine gs_b (fun hg => ?_) (fun hg => ?_) <;> conv => whnf) | refine fin1 rfl rfl ?_))
                exact ⟨rfl, (E, ec), ⟨rfl, rfl, rfl, rfl, rfl, rfl, rfl, rfl, rfl, rfl, rfl, rfl, rfl, rfl, trivial⟩, hOm, hSPm, hWPm⟩
            · rintro ⟨E, ec⟩ G5 wm ⟨hOm, hSPm, hWPm⟩
              simp only at hOm hSPm hWPm
              conv => whnf
              (repeat' (first | (refine wl_add rfl rfl rfl rfl rfl rfl (by omega) (by omega) (run_l tabOk ?_); conv => whnf) | (refine wl_sub rfl rfl rfl rfl rfl rfl (by omega) (by omega) (run_l tabOk ?_); conv => whnf) | (refine wl_cvA tabOk rfl rfl rfl (by simp only [inK]; omega) rfl rfl rfl (run_l tabOk ?_); conv => whnf) | (refine wl_cvB tabOk rfl rfl rfl rfl rfl rfl (run_l tabOk ?_); conv => whnf) | (refine wl_rem rfl rfl rfl rfl rfl rfl (by omega) (by omega) (fun r hr hr0 hr1 hr2 => run_l tabOk ?_); conv => whnf) | (refine wl_quo rfl rfl rfl rfl rfl rfl (by omega) (by omega) (by simp only [inK]; omega) (run_l tabOk ?_); conv => whnf) | (refine wl_mul rfl rfl rfl rfl rfl rfl (by omega) (by omega) (run_l tabOk ?_); conv => whnf) | (refine gs_dt (by first | assumption | omega) ?_; conv => whnf) | (refine gs_df (by first | assumption | omega) ?_; conv => whnf) | (refine gs_t (by assumption) ?_; conv => whnf) | (refine gs_f (by assumption) ?_; conv => whnf) | (refine gs_d (fun hg => ?_) (fun hg => ?_) <;> conv => whnf) | (refine gs_n (fun hg => ?_) (fun hg => ?_) <;> conv => whnf) | (refine gs_nb (fun hg => ?_) (fun hg => ?_) <;> conv => whnf) | (refine gs_b (fun hg => ?_) (fun hg => ?_) <;> conv => whnf) | refine fin1 rfl rfl ?_))
              refine ⟨(i + 1, E, ec), ⟨rfl, rfl, rfl, rfl, rfl, rfl, congrArg Value.bool nb.symm, rfl, congrArg (fun (T : List Int) => Value.int .i64 (T.length : Int)) nW.symm, congrArg Value.bool nR.symm, congrArg (fun (T : List Int) => Value.slice E T.length ec) nS.symm, rfl, rfl, trivial⟩, ⟨by simp only; omega, ?_, ?_, ?_⟩, by simp only; omega⟩
              · simp only
                rw [nW, nS]
                exact hOm
              · simp only
                rw [nS]
                exact hSPm
              · simp only
                rw [nW]
                exact hWPm
      · have hLi : i = L.length := by omega
        subst hLi
        rw [List.take_length] at hOi hSP hWP ⊢
        conv => whnf
        (repeat' (first | (refine wl_L tabOk rfl rfl rfl rfl rfl rfl hri1 (run_l tabOk ?_); conv => whnf) | (refine wl_Xn tabOk 24 1 rfl rfl rfl rfl rfl rfl rfl (by omega) (run_l tabOk ?_); conv => whnf) | (refine wl_add rfl rfl rfl rfl rfl rfl (by omega) (by omega) (run_l tabOk ?_); conv => whnf) | (refine wl_sub rfl rfl rfl rfl rfl rfl (by omega) (by omega) (run_l tabOk ?_); conv => whnf) | (refine wl_cvA tabOk rfl rfl rfl (by simp only [inK]; omega) rfl rfl rfl (run_l tabOk ?_); conv => whnf) | (refine wl_cvB tabOk rfl rfl rfl rfl rfl rfl (run_l tabOk ?_); conv => whnf) | (refine wl_rem rfl rfl rfl rfl rfl rfl (by omega) (by omega) (fun r hr hr0 hr1 hr2 => run_l tabOk ?_); conv => whnf) | (refine wl_quo rfl rfl rfl rfl rfl rfl (by omega) (by omega) (by simp only [inK]; omega) (run_l tabOk ?_); conv => whnf) | (refine wl_mul rfl rfl rfl rfl rfl rfl (by omega) (by omega) (run_l tabOk ?_); conv => whnf) | (refine gs_dt (by first | assumption | omega) ?_; conv => whnf) | (refine gs_df (by first | assumption | omega) ?_; conv => whnf) | (refine gs_t (by assumption) ?_; conv => whnf) | (refine gs_f (by assumption) ?_; conv => whnf) | (refine gs_d (fun hg => ?_) (fun hg => ?_) <;> conv => whnf) | (refine gs_n (fun hg => ?_) (fun hg => ?_) <;> conv => whnf) | (refine gs_nb (fun hg => ?_) (fun hg => ?_) <;> conv => whnf) | (refine gs_b (fun hg => ?_) (fun hg => ?_) <;> conv => whnf) | refine fin1 rfl rfl ?_))
        exact ⟨rfl, (D, dc), ⟨rfl, rfl, rfl, rfl, rfl, rfl, rfl, rfl, rfl, rfl, rfl, rfl, trivial⟩, hOi, hSP, hWP⟩
    · rintro ⟨D, dc⟩ G3 wi ⟨hOi, hSP, hWP⟩
      simp only at hOi hSP hWP
      obtain ⟨b, hb⟩ : ∃ b, b = (L.foldl (looV Lo) false) := ⟨_, rfl⟩
      obtain ⟨W, hW⟩ : ∃ W, W = (L.foldl (ownV Bases n) []) := ⟨_, rfl⟩
      obtain ⟨S, hS⟩ : ∃ S, S = (L.foldl (inV Into n of2 l k) []) := ⟨_, rfl⟩
      obtain ⟨R, hR⟩ : ∃ R, R = (L.foldl (rfV Into n of2 k) false) := ⟨_, rfl⟩
      rw [← hb, ← hW, ← hS, ← hR] at hF
      rw [← hW, ← hS] at hOi
      rw [← hS] at hSP
      rw [← hW] at hWP
      rw [← hb, ← hW, ← hS, ← hR]
      clear hb hW hS hR hfacts hkn2 hOS hOa hr0 hc0 k1 k2 k3
      have hb3i := blk_up hOi.below hb3
      by_cases hvn : v0 < n
      · have hF := hF hvn
        have hWl : W.length ≤ 16384 := nodupI_len hWP.1 hWP.2
        have hSl : S.length ≤ 2 * n := nodupI_len hSP.1 hSP.2
        have hrE := hOi.row.rowAt.2.2
        have hlv := rdl wi hOi.below v0 hvn
        obtain ⟨bn, hbn⟩ : ∃ bn, bn = b.toNat := ⟨_, rfl⟩
        obtain ⟨Rn, hRn⟩ : ∃ Rn, Rn = R.toNat := ⟨_, rfl⟩
        have q1 : bn + Rn = 0 → W.length = 0 → S.length = 0 → l v0 = -1 := fun h h3 h4 => hF.f1 (toNat0 (by omega)) (List.length_eq_zero_iff.1 h3) (List.length_eq_zero_iff.1 h4) (toNat0 (by omega))
        have q2 : bn + Rn = 0 → W.length = 0 → S.length = 1 → l v0 = S[0]! := fun h h3 h4 => hF.f2 (toNat0 (by omega)) (List.length_eq_zero_iff.1 h3) h4 (toNat0 (by omega))
        have q3 : 0 < bn + Rn + W.length + S.length → l v0 ≠ -1 := fun h => hF.f3 (by
          by_cases e1 : 0 < b.toNat
          · exact .inl (toNat1 e1)
          by_cases e2 : 0 < R.toNat
          · exact .inr (.inr (.inr (toNat1 e2)))
          by_cases e3 : 0 < W.length
          · exact .inr (.inl e3)
          · exact .inr (.inr (.inl (by omega))))
        have hup := hF.f4
        clear hF
        have hbc : (b = true ∧ bn = 1) ∨ (b = false ∧ bn = 0) := by cases b <;> simp [hbn]
        have hRc : (R = true ∧ Rn = 1) ∨ (R = false ∧ Rn = 0) := by cases R <;> simp [hRn]
        by_cases hS0 : S.length = 0
        · by_cases h4 : 0 < bn ∨ 1 < W.length + S.length
          · have hup2 := hup (h4.imp (fun h => toNat1 (by omega)) id)
            clear hbn hRn hup
            rcases hbc with ⟨rfl, hbn⟩ | ⟨rfl, hbn⟩ <;> rcases hRc with ⟨rfl, hRn⟩ | ⟨rfl, hRn⟩
            all_goals first
              | (exfalso; omega)
              | skip
            all_goals
              conv => whnf
              (repeat' (first | (refine wl_Lg tabOk hb3i rfl rfl rfl rfl rfl rfl rfl (run_l tabOk ?_); conv => whnf) | (refine wl_L tabOk rfl rfl rfl rfl rfl rfl hlv (run_l tabOk ?_); conv => whnf) | (refine wl_Xn tabOk 3 1 rfl rfl rfl rfl rfl rfl rfl (by omega) (run_l tabOk ?_); conv => whnf) | (refine wl_add rfl rfl rfl rfl rfl rfl (by omega) (by omega) (run_l tabOk ?_); conv => whnf) | (refine wl_sub rfl rfl rfl rfl rfl rfl (by omega) (by omega) (run_l tabOk ?_); conv => whnf) | (refine wl_cvA tabOk rfl rfl rfl (by simp only [inK]; omega) rfl rfl rfl (run_l tabOk ?_); conv => whnf) | (refine wl_cvB tabOk rfl rfl rfl rfl rfl rfl (run_l tabOk ?_); conv => whnf) | (refine wl_rem rfl rfl rfl rfl rfl rfl (by omega) (by omega) (fun r hr hr0 hr1 hr2 => run_l tabOk ?_); conv => whnf) | (refine wl_quo rfl rfl rfl rfl rfl rfl (by omega) (by omega) (by simp only [inK]; omega) (run_l tabOk ?_); conv => whnf) | (refine wl_mul rfl rfl rfl rfl rfl rfl (by omega) (by omega) (run_l tabOk ?_); conv => whnf) | (refine gs_dt (by first | assumption | omega) ?_; conv => whnf) | (refine gs_df (by first | assumption | omega) ?_; conv => whnf) | (refine gs_t (by assumption) ?_; conv => whnf) | (refine gs_f (by assumption) ?_; conv => whnf) | (refine gs_d (fun hg => ?_) (fun hg => ?_) <;> conv => whnf) | (refine gs_n (fun hg => ?_) (fun hg => ?_) <;> conv => whnf) | (refine gs_nb (fun hg => ?_) (fun hg => ?_) <;> conv => whnf) | (refine gs_b (fun hg => ?_) (fun hg => ?_) <;> conv => whnf) | refine fin1 rfl rfl ?_))
              all_goals
                refine wc_qr tabOk mixed (by kernel_rfl) ?_; conv => whnf
                (repeat' (first | (refine wq_L tabOk rfl rfl rfl rfl rfl rfl hlv (run_q tabOk ?_); conv => whnf) | (refine wq_Xn tabOk 3 1 rfl rfl rfl rfl rfl rfl rfl (by omega) (run_q tabOk ?_); conv => whnf) | (refine wq_X tabOk 3 1 rfl rfl rfl rfl rfl rfl rfl (by omega) (by omega) (run_q tabOk ?_); conv => whnf) | (refine wq_add rfl rfl rfl rfl rfl rfl (by omega) (by omega) (run_q tabOk ?_); conv => whnf) | (refine wq_sub rfl rfl rfl rfl rfl rfl (by omega) (by omega) (run_q tabOk ?_); conv => whnf) | (refine wq_cvA tabOk rfl rfl rfl (by simp only [inK]; omega) rfl rfl rfl (run_q tabOk ?_); conv => whnf) | (refine wq_cvB tabOk rfl rfl rfl rfl rfl rfl (run_q tabOk ?_); conv => whnf) | (refine wq_rem rfl rfl rfl rfl rfl rfl (by omega) (by omega) (fun r hr hr0 hr1 hr2 => run_q tabOk ?_); conv => whnf) | (refine wq_quo rfl rfl rfl rfl rfl rfl (by omega) (by omega) (by simp only [inK]; omega) (run_q tabOk ?_); conv => whnf) | (refine wq_mul rfl rfl rfl rfl rfl rfl (by omega) (by omega) (run_q tabOk ?_); conv => whnf) | (refine gs_dt (by first | assumption | omega) ?_; conv => whnf) | (refine gs_df (by first | assumption | omega) ?_; conv => whnf) | (refine gs_t (by assumption) ?_; conv => whnf) | (refine gs_f (by assumption) ?_; conv => whnf) | (refine gs_d (fun hg => ?_) (fun hg => ?_) <;> conv => whnf) | (refine gs_n (fun hg => ?_) (fun hg => ?_) <;> conv => whnf) | (refine gs_nb (fun hg => ?_) (fun hg => ?_) <;> conv => whnf) | (refine gs_b (fun hg => ?_) (fun hg => ?_) <;> conv => whnf)))
                intro w13 hB13
                have hlv := cell_up hB13 hlv
                conv => whnf
                (repeat' (first | (refine wl_L tabOk rfl rfl rfl rfl rfl rfl hlv (run_l tabOk ?_); conv => whnf) | (refine wl_Xn tabOk 3 1 rfl rfl rfl rfl rfl rfl rfl (by omega) (run_l tabOk ?_); conv => whnf) | (refine wl_add rfl rfl rfl rfl rfl rfl (by omega) (by omega) (run_l tabOk ?_); conv => whnf) | (refine wl_sub rfl rfl rfl rfl rfl rfl (by omega) (by omega) (run_l tabOk ?_); conv => whnf) | (refine wl_cvA tabOk rfl rfl rfl (by simp only [inK]; omega) rfl rfl rfl (run_l tabOk ?_); conv => whnf) | (refine wl_cvB tabOk rfl rfl rfl rfl rfl rfl (run_l tabOk ?_); conv => whnf) | (refine wl_rem rfl rfl rfl rfl rfl rfl (by omega) (by omega) (fun r hr hr0 hr1 hr2 => run_l tabOk ?_); conv => whnf) | (refine wl_quo rfl rfl rfl rfl rfl rfl (by omega) (by omega) (by simp only [inK]; omega) (run_l tabOk ?_); conv => whnf) | (refine wl_mul rfl rfl rfl rfl rfl rfl (by omega) (by omega) (run_l tabOk ?_); conv => whnf) | (refine gs_dt (by first | assumption | omega) ?_; conv => whnf) | (refine gs_df (by first | assumption | omega) ?_; conv => whnf) | (refine gs_t (by assumption) ?_; conv => whnf) | (refine gs_f (by assumption) ?_; conv => whnf) | (refine gs_d (fun hg => ?_) (fun hg => ?_) <;> conv => whnf) | (refine gs_n (fun hg => ?_) (fun hg => ?_) <;> conv => whnf) | (refine gs_nb (fun hg => ?_) (fun hg => ?_) <;> conv => whnf) | (refine gs_b (fun hg => ?_) (fun hg => ?_) <;> conv => whnf) | refine fin1 rfl rfl ?_))
              all_goals
                refine lp_loop tabOk (X := Nat) (fun u => [(3, .pointer (some ⟨g3, 0, none⟩)), (4, .pointer (some ⟨g4, 0, none⟩)), (5, .slice (some ⟨go, 0, none⟩) n n), (6, .slice (some adk) K ck), (7, .slice (some ⟨go2, 0, none⟩) (2 * n) (2 * n)), (8, .int .i64 (k : Int)), (14, .int .i64 (v0 : Int)), (22, .int .i64 (u : Int))]) (fun u wq => u ≤ n ∧ Below w11.heap.size w11 wq) (fun u => n - u) 0 ⟨rfl, rfl, rfl, rfl, rfl, rfl, rfl, rfl, trivial⟩ ⟨by omega, bup hOi.below (by assumption)⟩ ?_
                rintro u G7 wq ⟨hu, hBq⟩
                have hb3q := blk_up hBq hb3
                by_cases hun : u < n
                · have hlu := rdl wq hBq u hun
                  have hlv := rdl wq hBq v0 hvn
                  have hou := rdo wq hBq u (by omega)
                  have hov := rdo wq hBq v0 (by omega)
                  by_cases he : l u = l v0
                  · have hle := hup2 u hun he
                    conv => whnf
                    (repeat' (first | (refine wl_Lg tabOk hb3q rfl rfl rfl rfl rfl rfl rfl (run_l tabOk ?_); conv => whnf) | (refine wl_add rfl rfl rfl rfl rfl rfl (by omega) (by omega) (run_l tabOk ?_); conv => whnf) | (refine wl_sub rfl rfl rfl rfl rfl rfl (by omega) (by omega) (run_l tabOk ?_); conv => whnf) | (refine wl_cvA tabOk rfl rfl rfl (by simp only [inK]; omega) rfl rfl rfl (run_l tabOk ?_); conv => whnf) | (refine wl_cvB tabOk rfl rfl rfl rfl rfl rfl (run_l tabOk ?_); conv => whnf) | (refine wl_rem rfl rfl rfl rfl rfl rfl (by omega) (by omega) (fun r hr hr0 hr1 hr2 => run_l tabOk ?_); conv => whnf) | (refine wl_quo rfl rfl rfl rfl rfl rfl (by omega) (by omega) (by simp only [inK]; omega) (run_l tabOk ?_); conv => whnf) | (refine wl_mul rfl rfl rfl rfl rfl rfl (by omega) (by omega) (run_l tabOk ?_); conv => whnf) | (refine gs_dt (by first | assumption | omega) ?_; conv => whnf) | (refine gs_df (by first | assumption | omega) ?_; conv => whnf) | (refine gs_t (by assumption) ?_; conv => whnf) | (refine gs_f (by assumption) ?_; conv => whnf) | (refine gs_d (fun hg => ?_) (fun hg => ?_) <;> conv => whnf) | (refine gs_n (fun hg => ?_) (fun hg => ?_) <;> conv => whnf) | (refine gs_nb (fun hg => ?_) (fun hg => ?_) <;> conv => whnf) | (refine gs_b (fun hg => ?_) (fun hg => ?_) <;> conv => whnf) | refine fin1 rfl rfl ?_))
                    refine wc_qr tabOk mixed (by kernel_rfl) ?_; conv => whnf
                    (repeat' (first | (refine wq_L tabOk rfl rfl rfl rfl rfl rfl hlu (run_q tabOk ?_); conv => whnf) | (refine wq_L tabOk rfl rfl rfl rfl rfl rfl hlv (run_q tabOk ?_); conv => whnf) | (refine wq_L tabOk rfl rfl rfl rfl rfl rfl hou (run_q tabOk ?_); conv => whnf) | (refine wq_L tabOk rfl rfl rfl rfl rfl rfl hov (run_q tabOk ?_); conv => whnf) | (refine wq_Xn tabOk 3 1 rfl rfl rfl rfl rfl rfl rfl (by omega) (run_q tabOk ?_); conv => whnf) | (refine wq_add rfl rfl rfl rfl rfl rfl (by omega) (by omega) (run_q tabOk ?_); conv => whnf) | (refine wq_sub rfl rfl rfl rfl rfl rfl (by omega) (by omega) (run_q tabOk ?_); conv => whnf) | (refine wq_cvA tabOk rfl rfl rfl (by simp only [inK]; omega) rfl rfl rfl (run_q tabOk ?_); conv => whnf) | (refine wq_cvB tabOk rfl rfl rfl rfl rfl rfl (run_q tabOk ?_); conv => whnf) | (refine wq_rem rfl rfl rfl rfl rfl rfl (by omega) (by omega) (fun r hr hr0 hr1 hr2 => run_q tabOk ?_); conv => whnf) | (refine wq_quo rfl rfl rfl rfl rfl rfl (by omega) (by omega) (by simp only [inK]; omega) (run_q tabOk ?_); conv => whnf) | (refine wq_mul rfl rfl rfl rfl rfl rfl (by omega) (by omega) (run_q tabOk ?_); conv => whnf) | (refine gs_dt (by first | assumption | omega) ?_; conv => whnf) | (refine gs_df (by first | assumption | omega) ?_; conv => whnf) | (refine gs_t (by assumption) ?_; conv => whnf) | (refine gs_f (by assumption) ?_; conv => whnf) | (refine gs_d (fun hg => ?_) (fun hg => ?_) <;> conv => whnf) | (refine gs_n (fun hg => ?_) (fun hg => ?_) <;> conv => whnf) | (refine gs_nb (fun hg => ?_) (fun hg => ?_) <;> conv => whnf) | (refine gs_b (fun hg => ?_) (fun hg => ?_) <;> conv => whnf)))
                    intro wr hBr
                    conv => whnf
                    (repeat' (first | (refine wl_add rfl rfl rfl rfl rfl rfl (by omega) (by omega) (run_l tabOk ?_); conv => whnf) | (refine wl_sub rfl rfl rfl rfl rfl rfl (by omega) (by omega) (run_l tabOk ?_); conv => whnf) | (refine wl_cvA tabOk rfl rfl rfl (by simp only [inK]; omega) rfl rfl rfl (run_l tabOk ?_); conv => whnf) | (refine wl_cvB tabOk rfl rfl rfl rfl rfl rfl (run_l tabOk ?_); conv => whnf) | (refine wl_rem rfl rfl rfl rfl rfl rfl (by omega) (by omega) (fun r hr hr0 hr1 hr2 => run_l tabOk ?_); conv => whnf) | (refine wl_quo rfl rfl rfl rfl rfl rfl (by omega) (by omega) (by simp only [inK]; omega) (run_l tabOk ?_); conv => whnf) | (refine wl_mul rfl rfl rfl rfl rfl rfl (by omega) (by omega) (run_l tabOk ?_); conv => whnf) | (refine gs_dt (by first | assumption | omega) ?_; conv => whnf) | (refine gs_df (by first | assumption | omega) ?_; conv => whnf) | (refine gs_t (by assumption) ?_; conv => whnf) | (refine gs_f (by assumption) ?_; conv => whnf) | (refine gs_d (fun hg => ?_) (fun hg => ?_) <;> conv => whnf) | (refine gs_n (fun hg => ?_) (fun hg => ?_) <;> conv => whnf) | (refine gs_nb (fun hg => ?_) (fun hg => ?_) <;> conv => whnf) | (refine gs_b (fun hg => ?_) (fun hg => ?_) <;> conv => whnf) | refine fin1 rfl rfl ?_))
                    exact ⟨u + 1, ⟨rfl, rfl, rfl, rfl, rfl, rfl, rfl, rfl, trivial⟩, ⟨by omega, bup hBq hBr⟩, by omega⟩
                  · conv => whnf
                    (repeat' (first | (refine wl_Lg tabOk hb3q rfl rfl rfl rfl rfl rfl rfl (run_l tabOk ?_); conv => whnf) | (refine wl_add rfl rfl rfl rfl rfl rfl (by omega) (by omega) (run_l tabOk ?_); conv => whnf) | (refine wl_sub rfl rfl rfl rfl rfl rfl (by omega) (by omega) (run_l tabOk ?_); conv => whnf) | (refine wl_cvA tabOk rfl rfl rfl (by simp only [inK]; omega) rfl rfl rfl (run_l tabOk ?_); conv => whnf) | (refine wl_cvB tabOk rfl rfl rfl rfl rfl rfl (run_l tabOk ?_); conv => whnf) | (refine wl_rem rfl rfl rfl rfl rfl rfl (by omega) (by omega) (fun r hr hr0 hr1 hr2 => run_l tabOk ?_); conv => whnf) | (refine wl_quo rfl rfl rfl rfl rfl rfl (by omega) (by omega) (by simp only [inK]; omega) (run_l tabOk ?_); conv => whnf) | (refine wl_mul rfl rfl rfl rfl rfl rfl (by omega) (by omega) (run_l tabOk ?_); conv => whnf) | (refine gs_dt (by first | assumption | omega) ?_; conv => whnf) | (refine gs_df (by first | assumption | omega) ?_; conv => whnf) | (refine gs_t (by assumption) ?_; conv => whnf) | (refine gs_f (by assumption) ?_; conv => whnf) | (refine gs_d (fun hg => ?_) (fun hg => ?_) <;> conv => whnf) | (refine gs_n (fun hg => ?_) (fun hg => ?_) <;> conv => whnf) | (refine gs_nb (fun hg => ?_) (fun hg => ?_) <;> conv => whnf) | (refine gs_b (fun hg => ?_) (fun hg => ?_) <;> conv => whnf) | refine fin1 rfl rfl ?_))
                    refine wc_qr tabOk mixed (by kernel_rfl) ?_; conv => whnf
                    (repeat' (first | (refine wq_L tabOk rfl rfl rfl rfl rfl rfl hlu (run_q tabOk ?_); conv => whnf) | (refine wq_L tabOk rfl rfl rfl rfl rfl rfl hlv (run_q tabOk ?_); conv => whnf) | (refine wq_L tabOk rfl rfl rfl rfl rfl rfl hou (run_q tabOk ?_); conv => whnf) | (refine wq_L tabOk rfl rfl rfl rfl rfl rfl hov (run_q tabOk ?_); conv => whnf) | (refine wq_Xn tabOk 3 1 rfl rfl rfl rfl rfl rfl rfl (by omega) (run_q tabOk ?_); conv => whnf) | (refine wq_add rfl rfl rfl rfl rfl rfl (by omega) (by omega) (run_q tabOk ?_); conv => whnf) | (refine wq_sub rfl rfl rfl rfl rfl rfl (by omega) (by omega) (run_q tabOk ?_); conv => whnf) | (refine wq_cvA tabOk rfl rfl rfl (by simp only [inK]; omega) rfl rfl rfl (run_q tabOk ?_); conv => whnf) | (refine wq_cvB tabOk rfl rfl rfl rfl rfl rfl (run_q tabOk ?_); conv => whnf) | (refine wq_rem rfl rfl rfl rfl rfl rfl (by omega) (by omega) (fun r hr hr0 hr1 hr2 => run_q tabOk ?_); conv => whnf) | (refine wq_quo rfl rfl rfl rfl rfl rfl (by omega) (by omega) (by simp only [inK]; omega) (run_q tabOk ?_); conv => whnf) | (refine wq_mul rfl rfl rfl rfl rfl rfl (by omega) (by omega) (run_q tabOk ?_); conv => whnf) | (refine gs_dt (by first | assumption | omega) ?_; conv => whnf) | (refine gs_df (by first | assumption | omega) ?_; conv => whnf) | (refine gs_t (by assumption) ?_; conv => whnf) | (refine gs_f (by assumption) ?_; conv => whnf) | (refine gs_d (fun hg => ?_) (fun hg => ?_) <;> conv => whnf) | (refine gs_n (fun hg => ?_) (fun hg => ?_) <;> conv => whnf) | (refine gs_nb (fun hg => ?_) (fun hg => ?_) <;> conv => whnf) | (refine gs_b (fun hg => ?_) (fun hg => ?_) <;> conv => whnf)))
                    intro wr hBr
                    conv => whnf
                    (repeat' (first | (refine wl_add rfl rfl rfl rfl rfl rfl (by omega) (by omega) (run_l tabOk ?_); conv => whnf) | (refine wl_sub rfl rfl rfl rfl rfl rfl (by omega) (by omega) (run_l tabOk ?_); conv => whnf) | (refine wl_cvA tabOk rfl rfl rfl (by simp only [inK]; omega) rfl rfl rfl (run_l tabOk ?_); conv => whnf) | (refine wl_cvB tabOk rfl rfl rfl rfl rfl rfl (run_l tabOk ?_); conv => whnf) | (refine wl_rem rfl rfl rfl rfl rfl rfl (by omega) (by omega) (fun r hr hr0 hr1 hr2 => run_l tabOk ?_); conv => whnf) | (refine wl_quo rfl rfl rfl rfl rfl rfl (by omega) (by omega) (by simp only [inK]; omega) (run_l tabOk ?_); conv => whnf) | (refine wl_mul rfl rfl rfl rfl rfl rfl (by omega) (by omega) (run_l tabOk ?_); conv => whnf) | (refine gs_dt (by first | assumption | omega) ?_; conv => whnf) | (refine gs_df (by first | assumption | omega) ?_; conv => whnf) | (refine gs_t (by assumption) ?_; conv => whnf) | (refine gs_f (by assumption) ?_; conv => whnf) | (refine gs_d (fun hg => ?_) (fun hg => ?_) <;> conv => whnf) | (refine gs_n (fun hg => ?_) (fun hg => ?_) <;> conv => whnf) | (refine gs_nb (fun hg => ?_) (fun hg => ?_) <;> conv => whnf) | (refine gs_b (fun hg => ?_) (fun hg => ?_) <;> conv => whnf) | refine fin1 rfl rfl ?_))
                    exact ⟨u + 1, ⟨rfl, rfl, rfl, rfl, rfl, rfl, rfl, rfl, trivial⟩, ⟨by omega, bup hBq hBr⟩, by omega⟩
                · conv => whnf
                  (repeat' (first | (refine wl_Lg tabOk hb3q rfl rfl rfl rfl rfl rfl rfl (run_l tabOk ?_); conv => whnf) | (refine wl_add rfl rfl rfl rfl rfl rfl (by omega) (by omega) (run_l tabOk ?_); conv => whnf) | (refine wl_sub rfl rfl rfl rfl rfl rfl (by omega) (by omega) (run_l tabOk ?_); conv => whnf) | (refine wl_cvA tabOk rfl rfl rfl (by simp only [inK]; omega) rfl rfl rfl (run_l tabOk ?_); conv => whnf) | (refine wl_cvB tabOk rfl rfl rfl rfl rfl rfl (run_l tabOk ?_); conv => whnf) | (refine wl_rem rfl rfl rfl rfl rfl rfl (by omega) (by omega) (fun r hr hr0 hr1 hr2 => run_l tabOk ?_); conv => whnf) | (refine wl_quo rfl rfl rfl rfl rfl rfl (by omega) (by omega) (by simp only [inK]; omega) (run_l tabOk ?_); conv => whnf) | (refine wl_mul rfl rfl rfl rfl rfl rfl (by omega) (by omega) (run_l tabOk ?_); conv => whnf) | (refine gs_dt (by first | assumption | omega) ?_; conv => whnf) | (refine gs_df (by first | assumption | omega) ?_; conv => whnf) | (refine gs_t (by assumption) ?_; conv => whnf) | (refine gs_f (by assumption) ?_; conv => whnf) | (refine gs_d (fun hg => ?_) (fun hg => ?_) <;> conv => whnf) | (refine gs_n (fun hg => ?_) (fun hg => ?_) <;> conv => whnf) | (refine gs_nb (fun hg => ?_) (fun hg => ?_) <;> conv => whnf) | (refine gs_b (fun hg => ?_) (fun hg => ?_) <;> conv => whnf) | refine fin1 rfl rfl ?_))
                  exact ⟨k + 1, ⟨rfl, rfl, rfl, rfl, rfl, rfl, trivial⟩, ⟨by omega, hBq⟩, by omega⟩
          · clear hbn hRn hup
            rcases hbc with ⟨rfl, hbn⟩ | ⟨rfl, hbn⟩ <;> rcases hRc with ⟨rfl, hRn⟩ | ⟨rfl, hRn⟩
            all_goals first
              | (exfalso; omega)
              | skip
            all_goals
              conv => whnf
              (repeat' (first | (refine wl_Lg tabOk hb3i rfl rfl rfl rfl rfl rfl rfl (run_l tabOk ?_); conv => whnf) | (refine wl_L tabOk rfl rfl rfl rfl rfl rfl hlv (run_l tabOk ?_); conv => whnf) | (refine wl_Xn tabOk 3 1 rfl rfl rfl rfl rfl rfl rfl (by omega) (run_l tabOk ?_); conv => whnf) | (refine wl_add rfl rfl rfl rfl rfl rfl (by omega) (by omega) (run_l tabOk ?_); conv => whnf) | (refine wl_sub rfl rfl rfl rfl rfl rfl (by omega) (by omega) (run_l tabOk ?_); conv => whnf) | (refine wl_cvA tabOk rfl rfl rfl (by simp only [inK]; omega) rfl rfl rfl (run_l tabOk ?_); conv => whnf) | (refine wl_cvB tabOk rfl rfl rfl rfl rfl rfl (run_l tabOk ?_); conv => whnf) | (refine wl_rem rfl rfl rfl rfl rfl rfl (by omega) (by omega) (fun r hr hr0 hr1 hr2 => run_l tabOk ?_); conv => whnf) | (refine wl_quo rfl rfl rfl rfl rfl rfl (by omega) (by omega) (by simp only [inK]; omega) (run_l tabOk ?_); conv => whnf) | (refine wl_mul rfl rfl rfl rfl rfl rfl (by omega) (by omega) (run_l tabOk ?_); conv => whnf) | (refine gs_dt (by first | assumption | omega) ?_; conv => whnf) | (refine gs_df (by first | assumption | omega) ?_; conv => whnf) | (refine gs_t (by assumption) ?_; conv => whnf) | (refine gs_f (by assumption) ?_; conv => whnf) | (refine gs_d (fun hg => ?_) (fun hg => ?_) <;> conv => whnf) | (refine gs_n (fun hg => ?_) (fun hg => ?_) <;> conv => whnf) | (refine gs_nb (fun hg => ?_) (fun hg => ?_) <;> conv => whnf) | (refine gs_b (fun hg => ?_) (fun hg => ?_) <;> conv => whnf) | refine fin1 rfl rfl ?_))
              all_goals
                refine wc_qr tabOk mixed (by kernel_rfl) ?_; conv => whnf
                (repeat' (first | (refine wq_L tabOk rfl rfl rfl rfl rfl rfl hlv (run_q tabOk ?_); conv => whnf) | (refine wq_Xn tabOk 3 1 rfl rfl rfl rfl rfl rfl rfl (by omega) (run_q tabOk ?_); conv => whnf) | (refine wq_X tabOk 3 1 rfl rfl rfl rfl rfl rfl rfl (by omega) (by omega) (run_q tabOk ?_); conv => whnf) | (refine wq_add rfl rfl rfl rfl rfl rfl (by omega) (by omega) (run_q tabOk ?_); conv => whnf) | (refine wq_sub rfl rfl rfl rfl rfl rfl (by omega) (by omega) (run_q tabOk ?_); conv => whnf) | (refine wq_cvA tabOk rfl rfl rfl (by simp only [inK]; omega) rfl rfl rfl (run_q tabOk ?_); conv => whnf) | (refine wq_cvB tabOk rfl rfl rfl rfl rfl rfl (run_q tabOk ?_); conv => whnf) | (refine wq_rem rfl rfl rfl rfl rfl rfl (by omega) (by omega) (fun r hr hr0 hr1 hr2 => run_q tabOk ?_); conv => whnf) | (refine wq_quo rfl rfl rfl rfl rfl rfl (by omega) (by omega) (by simp only [inK]; omega) (run_q tabOk ?_); conv => whnf) | (refine wq_mul rfl rfl rfl rfl rfl rfl (by omega) (by omega) (run_q tabOk ?_); conv => whnf) | (refine gs_dt (by first | assumption | omega) ?_; conv => whnf) | (refine gs_df (by first | assumption | omega) ?_; conv => whnf) | (refine gs_t (by assumption) ?_; conv => whnf) | (refine gs_f (by assumption) ?_; conv => whnf) | (refine gs_d (fun hg => ?_) (fun hg => ?_) <;> conv => whnf) | (refine gs_n (fun hg => ?_) (fun hg => ?_) <;> conv => whnf) | (refine gs_nb (fun hg => ?_) (fun hg => ?_) <;> conv => whnf) | (refine gs_b (fun hg => ?_) (fun hg => ?_) <;> conv => whnf)))
                intro w13 hB13
                have hlv := cell_up hB13 hlv
                conv => whnf
                (repeat' (first | (refine wl_L tabOk rfl rfl rfl rfl rfl rfl hlv (run_l tabOk ?_); conv => whnf) | (refine wl_Xn tabOk 3 1 rfl rfl rfl rfl rfl rfl rfl (by omega) (run_l tabOk ?_); conv => whnf) | (refine wl_add rfl rfl rfl rfl rfl rfl (by omega) (by omega) (run_l tabOk ?_); conv => whnf) | (refine wl_sub rfl rfl rfl rfl rfl rfl (by omega) (by omega) (run_l tabOk ?_); conv => whnf) | (refine wl_cvA tabOk rfl rfl rfl (by simp only [inK]; omega) rfl rfl rfl (run_l tabOk ?_); conv => whnf) | (refine wl_cvB tabOk rfl rfl rfl rfl rfl rfl (run_l tabOk ?_); conv => whnf) | (refine wl_rem rfl rfl rfl rfl rfl rfl (by omega) (by omega) (fun r hr hr0 hr1 hr2 => run_l tabOk ?_); conv => whnf) | (refine wl_quo rfl rfl rfl rfl rfl rfl (by omega) (by omega) (by simp only [inK]; omega) (run_l tabOk ?_); conv => whnf) | (refine wl_mul rfl rfl rfl rfl rfl rfl (by omega) (by omega) (run_l tabOk ?_); conv => whnf) | (refine gs_dt (by first | assumption | omega) ?_; conv => whnf) | (refine gs_df (by first | assumption | omega) ?_; conv => whnf) | (refine gs_t (by assumption) ?_; conv => whnf) | (refine gs_f (by assumption) ?_; conv => whnf) | (refine gs_d (fun hg => ?_) (fun hg => ?_) <;> conv => whnf) | (refine gs_n (fun hg => ?_) (fun hg => ?_) <;> conv => whnf) | (refine gs_nb (fun hg => ?_) (fun hg => ?_) <;> conv => whnf) | (refine gs_b (fun hg => ?_) (fun hg => ?_) <;> conv => whnf) | refine fin1 rfl rfl ?_))
              all_goals exact ⟨k + 1, ⟨rfl, rfl, rfl, rfl, rfl, rfl, trivial⟩, ⟨by omega, bup hOi.below (by assumption)⟩, by omega⟩
        · obtain ⟨z, ad5, ⟨hz⟩, e5, hzc, _, _⟩ := intsE hrE 0 (by omega)
          subst e5
          rw [hz] at q2
          by_cases h4 : 0 < bn ∨ 1 < W.length + S.length
          · have hup2 := hup (h4.imp (fun h => toNat1 (by omega)) id)
            clear hbn hRn hup
            rcases hbc with ⟨rfl, hbn⟩ | ⟨rfl, hbn⟩ <;> rcases hRc with ⟨rfl, hRn⟩ | ⟨rfl, hRn⟩
            all_goals first
              | (exfalso; omega)
              | skip
            all_goals
              conv => whnf
              (repeat' (first | (refine wl_Lg tabOk hb3i rfl rfl rfl rfl rfl rfl rfl (run_l tabOk ?_); conv => whnf) | (refine wl_L tabOk rfl rfl rfl rfl rfl rfl hlv (run_l tabOk ?_); conv => whnf) | (refine wl_Xn tabOk 3 1 rfl rfl rfl rfl rfl rfl rfl (by omega) (run_l tabOk ?_); conv => whnf) | (refine wl_add rfl rfl rfl rfl rfl rfl (by omega) (by omega) (run_l tabOk ?_); conv => whnf) | (refine wl_sub rfl rfl rfl rfl rfl rfl (by omega) (by omega) (run_l tabOk ?_); conv => whnf) | (refine wl_cvA tabOk rfl rfl rfl (by simp only [inK]; omega) rfl rfl rfl (run_l tabOk ?_); conv => whnf) | (refine wl_cvB tabOk rfl rfl rfl rfl rfl rfl (run_l tabOk ?_); conv => whnf) | (refine wl_rem rfl rfl rfl rfl rfl rfl (by omega) (by omega) (fun r hr hr0 hr1 hr2 => run_l tabOk ?_); conv => whnf) | (refine wl_quo rfl rfl rfl rfl rfl rfl (by omega) (by omega) (by simp only [inK]; omega) (run_l tabOk ?_); conv => whnf) | (refine wl_mul rfl rfl rfl rfl rfl rfl (by omega) (by omega) (run_l tabOk ?_); conv => whnf) | (refine gs_dt (by first | assumption | omega) ?_; conv => whnf) | (refine gs_df (by first | assumption | omega) ?_; conv => whnf) | (refine gs_t (by assumption) ?_; conv => whnf) | (refine gs_f (by assumption) ?_; conv => whnf) | (refine gs_d (fun hg => ?_) (fun hg => ?_) <;> conv => whnf) | (refine gs_n (fun hg => ?_) (fun hg => ?_) <;> conv => whnf) | (refine gs_nb (fun hg => ?_) (fun hg => ?_) <;> conv => whnf) | (refine gs_b (fun hg => ?_) (fun hg => ?_) <;> conv => whnf) | refine fin1 rfl rfl ?_))
              all_goals
                refine wc_qr tabOk mixed (by kernel_rfl) ?_; conv => whnf
                (repeat' (first | (refine wq_L tabOk rfl rfl rfl rfl rfl rfl hlv (run_q tabOk ?_); conv => whnf) | (refine wq_L tabOk rfl rfl rfl rfl rfl rfl hzc (run_q tabOk ?_); conv => whnf) | (refine wq_Xn tabOk 3 1 rfl rfl rfl rfl rfl rfl rfl (by omega) (run_q tabOk ?_); conv => whnf) | (refine wq_X tabOk 3 1 rfl rfl rfl rfl rfl rfl rfl (by omega) (by omega) (run_q tabOk ?_); conv => whnf) | (refine wq_add rfl rfl rfl rfl rfl rfl (by omega) (by omega) (run_q tabOk ?_); conv => whnf) | (refine wq_sub rfl rfl rfl rfl rfl rfl (by omega) (by omega) (run_q tabOk ?_); conv => whnf) | (refine wq_cvA tabOk rfl rfl rfl (by simp only [inK]; omega) rfl rfl rfl (run_q tabOk ?_); conv => whnf) | (refine wq_cvB tabOk rfl rfl rfl rfl rfl rfl (run_q tabOk ?_); conv => whnf) | (refine wq_rem rfl rfl rfl rfl rfl rfl (by omega) (by omega) (fun r hr hr0 hr1 hr2 => run_q tabOk ?_); conv => whnf) | (refine wq_quo rfl rfl rfl rfl rfl rfl (by omega) (by omega) (by simp only [inK]; omega) (run_q tabOk ?_); conv => whnf) | (refine wq_mul rfl rfl rfl rfl rfl rfl (by omega) (by omega) (run_q tabOk ?_); conv => whnf) | (refine gs_dt (by first | assumption | omega) ?_; conv => whnf) | (refine gs_df (by first | assumption | omega) ?_; conv => whnf) | (refine gs_t (by assumption) ?_; conv => whnf) | (refine gs_f (by assumption) ?_; conv => whnf) | (refine gs_d (fun hg => ?_) (fun hg => ?_) <;> conv => whnf) | (refine gs_n (fun hg => ?_) (fun hg => ?_) <;> conv => whnf) | (refine gs_nb (fun hg => ?_) (fun hg => ?_) <;> conv => whnf) | (refine gs_b (fun hg => ?_) (fun hg => ?_) <;> conv => whnf)))
                intro w13 hB13
                have hlv := cell_up hB13 hlv
                conv => whnf
                (repeat' (first | (refine wl_L tabOk rfl rfl rfl rfl rfl rfl hlv (run_l tabOk ?_); conv => whnf) | (refine wl_Xn tabOk 3 1 rfl rfl rfl rfl rfl rfl rfl (by omega) (run_l tabOk ?_); conv => whnf) | (refine wl_add rfl rfl rfl rfl rfl rfl (by omega) (by omega) (run_l tabOk ?_); conv => whnf) | (refine wl_sub rfl rfl rfl rfl rfl rfl (by omega) (by omega) (run_l tabOk ?_); conv => whnf) | (refine wl_cvA tabOk rfl rfl rfl (by simp only [inK]; omega) rfl rfl rfl (run_l tabOk ?_); conv => whnf) | (refine wl_cvB tabOk rfl rfl rfl rfl rfl rfl (run_l tabOk ?_); conv => whnf) | (refine wl_rem rfl rfl rfl rfl rfl rfl (by omega) (by omega) (fun r hr hr0 hr1 hr2 => run_l tabOk ?_); conv => whnf) | (refine wl_quo rfl rfl rfl rfl rfl rfl (by omega) (by omega) (by simp only [inK]; omega) (run_l tabOk ?_); conv => whnf) | (refine wl_mul rfl rfl rfl rfl rfl rfl (by omega) (by omega) (run_l tabOk ?_); conv => whnf) | (refine gs_dt (by first | assumption | omega) ?_; conv => whnf) | (refine gs_df (by first | assumption | omega) ?_; conv => whnf) | (refine gs_t (by assumption) ?_; conv => whnf) | (refine gs_f (by assumption) ?_; conv => whnf) | (refine gs_d (fun hg => ?_) (fun hg => ?_) <;> conv => whnf) | (refine gs_n (fun hg => ?_) (fun hg => ?_) <;> conv => whnf) | (refine gs_nb (fun hg => ?_) (fun hg => ?_) <;> conv => whnf) | (refine gs_b (fun hg => ?_) (fun hg => ?_) <;> conv => whnf) | refine fin1 rfl rfl ?_))
              all_goals
                refine lp_loop tabOk (X := Nat) (fun u => [(3, .pointer (some ⟨g3, 0, none⟩)), (4, .pointer (some ⟨g4, 0, none⟩)), (5, .slice (some ⟨go, 0, none⟩) n n), (6, .slice (some adk) K ck), (7, .slice (some ⟨go2, 0, none⟩) (2 * n) (2 * n)), (8, .int .i64 (k : Int)), (14, .int .i64 (v0 : Int)), (22, .int .i64 (u : Int))]) (fun u wq => u ≤ n ∧ Below w11.heap.size w11 wq) (fun u => n - u) 0 ⟨rfl, rfl, rfl, rfl, rfl, rfl, rfl, rfl, trivial⟩ ⟨by omega, bup hOi.below (by assumption)⟩ ?_
                rintro u G7 wq ⟨hu, hBq⟩
                have hb3q := blk_up hBq hb3
                by_cases hun : u < n
                · have hlu := rdl wq hBq u hun
                  have hlv := rdl wq hBq v0 hvn
                  have hou := rdo wq hBq u (by omega)
                  have hov := rdo wq hBq v0 (by omega)
                  by_cases he : l u = l v0
                  · have hle := hup2 u hun he
                    conv => whnf
                    (repeat' (first | (refine wl_Lg tabOk hb3q rfl rfl rfl rfl rfl rfl rfl (run_l tabOk ?_); conv => whnf) | (refine wl_add rfl rfl rfl rfl rfl rfl (by omega) (by omega) (run_l tabOk ?_); conv => whnf) | (refine wl_sub rfl rfl rfl rfl rfl rfl (by omega) (by omega) (run_l tabOk ?_); conv => whnf) | (refine wl_cvA tabOk rfl rfl rfl (by simp only [inK]; omega) rfl rfl rfl (run_l tabOk ?_); conv => whnf) | (refine wl_cvB tabOk rfl rfl rfl rfl rfl rfl (run_l tabOk ?_); conv => whnf) | (refine wl_rem rfl rfl rfl rfl rfl rfl (by omega) (by omega) (fun r hr hr0 hr1 hr2 => run_l tabOk ?_); conv => whnf) | (refine wl_quo rfl rfl rfl rfl rfl rfl (by omega) (by omega) (by simp only [inK]; omega) (run_l tabOk ?_); conv => whnf) | (refine wl_mul rfl rfl rfl rfl rfl rfl (by omega) (by omega) (run_l tabOk ?_); conv => whnf) | (refine gs_dt (by first | assumption | omega) ?_; conv => whnf) | (refine gs_df (by first | assumption | omega) ?_; conv => whnf) | (refine gs_t (by assumption) ?_; conv => whnf) | (refine gs_f (by assumption) ?_; conv => whnf) | (refine gs_d (fun hg => ?_) (fun hg => ?_) <;> conv => whnf) | (refine gs_n (fun hg => ?_) (fun hg => ?_) <;> conv => whnf) | (refine gs_nb (fun hg => ?_) (fun hg => ?_) <;> conv => whnf) | (refine gs_b (fun hg => ?_) (fun hg => ?_) <;> conv => whnf) | refine fin1 rfl rfl ?_))
                    refine wc_qr tabOk mixed (by kernel_rfl) ?_; conv => whnf
                    (repeat' (first | (refine wq_L tabOk rfl rfl rfl rfl rfl rfl hlu (run_q tabOk ?_); conv => whnf) | (refine wq_L tabOk rfl rfl rfl rfl rfl rfl hlv (run_q tabOk ?_); conv => whnf) | (refine wq_L tabOk rfl rfl rfl rfl rfl rfl hou (run_q tabOk ?_); conv => whnf) | (refine wq_L tabOk rfl rfl rfl rfl rfl rfl hov (run_q tabOk ?_); conv => whnf) | (refine wq_Xn tabOk 3 1 rfl rfl rfl rfl rfl rfl rfl (by omega) (run_q tabOk ?_); conv => whnf) | (refine wq_add rfl rfl rfl rfl rfl rfl (by omega) (by omega) (run_q tabOk ?_); conv => whnf) | (refine wq_sub rfl rfl rfl rfl rfl rfl (by omega) (by omega) (run_q tabOk ?_); conv => whnf) | (refine wq_cvA tabOk rfl rfl rfl (by simp only [inK]; omega) rfl rfl rfl (run_q tabOk ?_); conv => whnf) | (refine wq_cvB tabOk rfl rfl rfl rfl rfl rfl (run_q tabOk ?_); conv => whnf) | (refine wq_rem rfl rfl rfl rfl rfl rfl (by omega) (by omega) (fun r hr hr0 hr1 hr2 => run_q tabOk ?_); conv => whnf) | (refine wq_quo rfl rfl rfl rfl rfl rfl (by omega) (by omega) (by simp only [inK]; omega) (run_q tabOk ?_); conv => whnf) | (refine wq_mul rfl rfl rfl rfl rfl rfl (by omega) (by omega) (run_q tabOk ?_); conv => whnf) | (refine gs_dt (by first | assumption | omega) ?_; conv => whnf) | (refine gs_df (by first | assumption | omega) ?_; conv => whnf) | (refine gs_t (by assumption) ?_; conv => whnf) | (refine gs_f (by assumption) ?_; conv => whnf) | (refine gs_d (fun hg => ?_) (fun hg => ?_) <;> conv => whnf) | (refine gs_n (fun hg => ?_) (fun hg => ?_) <;> conv => whnf) | (refine gs_nb (fun hg => ?_) (fun hg => ?_) <;> conv => whnf) | (refine gs_b (fun hg => ?_) (fun hg => ?_) <;> conv => whnf)))
                    intro wr hBr
                    conv => whnf
                    (repeat' (first | (refine wl_add rfl rfl rfl rfl rfl rfl (by omega) (by omega) (run_l tabOk ?_); conv => whnf) | (refine wl_sub rfl rfl rfl rfl rfl rfl (by omega) (by omega) (run_l tabOk ?_); conv => whnf) | (refine wl_cvA tabOk rfl rfl rfl (by simp only [inK]; omega) rfl rfl rfl (run_l tabOk ?_); conv => whnf) | (refine wl_cvB tabOk rfl rfl rfl rfl rfl rfl (run_l tabOk ?_); conv => whnf) | (refine wl_rem rfl rfl rfl rfl rfl rfl (by omega) (by omega) (fun r hr hr0 hr1 hr2 => run_l tabOk ?_); conv => whnf) | (refine wl_quo rfl rfl rfl rfl rfl rfl (by omega) (by omega) (by simp only [inK]; omega) (run_l tabOk ?_); conv => whnf) | (refine wl_mul rfl rfl rfl rfl rfl rfl (by omega) (by omega) (run_l tabOk ?_); conv => whnf) | (refine gs_dt (by first | assumption | omega) ?_; conv => whnf) | (refine gs_df (by first | assumption | omega) ?_; conv => whnf) | (refine gs_t (by assumption) ?_; conv => whnf) | (refine gs_f (by assumption) ?_; conv => whnf) | (refine gs_d (fun hg => ?_) (fun hg => ?_) <;> conv => whnf) | (refine gs_n (fun hg => ?_) (fun hg => ?_) <;> conv => whnf) | (refine gs_nb (fun hg => ?_) (fun hg => ?_) <;> conv => whnf) | (refine gs_b (fun hg => ?_) (fun hg => ?_) <;> conv => whnf) | refine fin1 rfl rfl ?_))
                    exact ⟨u + 1, ⟨rfl, rfl, rfl, rfl, rfl, rfl, rfl, rfl, trivial⟩, ⟨by omega, bup hBq hBr⟩, by omega⟩
                  · conv => whnf
                    (repeat' (first | (refine wl_Lg tabOk hb3q rfl rfl rfl rfl rfl rfl rfl (run_l tabOk ?_); conv => whnf) | (refine wl_add rfl rfl rfl rfl rfl rfl (by omega) (by omega) (run_l tabOk ?_); conv => whnf) | (refine wl_sub rfl rfl rfl rfl rfl rfl (by omega) (by omega) (run_l tabOk ?_); conv => whnf) | (refine wl_cvA tabOk rfl rfl rfl (by simp only [inK]; omega) rfl rfl rfl (run_l tabOk ?_); conv => whnf) | (refine wl_cvB tabOk rfl rfl rfl rfl rfl rfl (run_l tabOk ?_); conv => whnf) | (refine wl_rem rfl rfl rfl rfl rfl rfl (by omega) (by omega) (fun r hr hr0 hr1 hr2 => run_l tabOk ?_); conv => whnf) | (refine wl_quo rfl rfl rfl rfl rfl rfl (by omega) (by omega) (by simp only [inK]; omega) (run_l tabOk ?_); conv => whnf) | (refine wl_mul rfl rfl rfl rfl rfl rfl (by omega) (by omega) (run_l tabOk ?_); conv => whnf) | (refine gs_dt (by first | assumption | omega) ?_; conv => whnf) | (refine gs_df (by first | assumption | omega) ?_; conv => whnf) | (refine gs_t (by assumption) ?_; conv => whnf) | (refine gs_f (by assumption) ?_; conv => whnf) | (refine gs_d (fun hg => ?_) (fun hg => ?_) <;> conv => whnf) | (refine gs_n (fun hg => ?_) (fun hg => ?_) <;> conv => whnf) | (refine gs_nb (fun hg => ?_) (fun hg => ?_) <;> conv => whnf) | (refine gs_b (fun hg => ?_) (fun hg => ?_) <;> conv => whnf) | refine fin1 rfl rfl ?_))
                    refine wc_qr tabOk mixed (by kernel_rfl) ?_; conv => whnf
                    (repeat' (first | (refine wq_L tabOk rfl rfl rfl rfl rfl rfl hlu (run_q tabOk ?_); conv => whnf) | (refine wq_L tabOk rfl rfl rfl rfl rfl rfl hlv (run_q tabOk ?_); conv => whnf) | (refine wq_L tabOk rfl rfl rfl rfl rfl rfl hou (run_q tabOk ?_); conv => whnf) | (refine wq_L tabOk rfl rfl rfl rfl rfl rfl hov (run_q tabOk ?_); conv => whnf) | (refine wq_Xn tabOk 3 1 rfl rfl rfl rfl rfl rfl rfl (by omega) (run_q tabOk ?_); conv => whnf) | (refine wq_add rfl rfl rfl rfl rfl rfl (by omega) (by omega) (run_q tabOk ?_); conv => whnf) | (refine wq_sub rfl rfl rfl rfl rfl rfl (by omega) (by omega) (run_q tabOk ?_); conv => whnf) | (refine wq_cvA tabOk rfl rfl rfl (by simp only [inK]; omega) rfl rfl rfl (run_q tabOk ?_); conv => whnf) | (refine wq_cvB tabOk rfl rfl rfl rfl rfl rfl (run_q tabOk ?_); conv => whnf) | (refine wq_rem rfl rfl rfl rfl rfl rfl (by omega) (by omega) (fun r hr hr0 hr1 hr2 => run_q tabOk ?_); conv => whnf) | (refine wq_quo rfl rfl rfl rfl rfl rfl (by omega) (by omega) (by simp only [inK]; omega) (run_q tabOk ?_); conv => whnf) | (refine wq_mul rfl rfl rfl rfl rfl rfl (by omega) (by omega) (run_q tabOk ?_); conv => whnf) | (refine gs_dt (by first | assumption | omega) ?_; conv => whnf) | (refine gs_df (by first | assumption | omega) ?_; conv => whnf) | (refine gs_t (by assumption) ?_; conv => whnf) | (refine gs_f (by assumption) ?_; conv => whnf) | (refine gs_d (fun hg => ?_) (fun hg => ?_) <;> conv => whnf) | (refine gs_n (fun hg => ?_) (fun hg => ?_) <;> conv => whnf) | (refine gs_nb (fun hg => ?_) (fun hg => ?_) <;> conv => whnf) | (refine gs_b (fun hg => ?_) (fun hg => ?_) <;> conv => whnf)))
                    intro wr hBr
                    conv => whnf
                    (repeat' (first | (refine wl_add rfl rfl rfl rfl rfl rfl (by omega) (by omega) (run_l tabOk ?_); conv => whnf) | (refine wl_sub rfl rfl rfl rfl rfl rfl (by omega) (by omega) (run_l tabOk ?_); conv => whnf) | (refine wl_cvA tabOk rfl rfl rfl (by simp only [inK]; omega) rfl rfl rfl (run_l tabOk ?_); conv => whnf) | (refine wl_cvB tabOk rfl rfl rfl rfl rfl rfl (run_l tabOk ?_); conv => whnf) | (refine wl_rem rfl rfl rfl rfl rfl rfl (by omega) (by omega) (fun r hr hr0 hr1 hr2 => run_l tabOk ?_); conv => whnf) | (refine wl_quo rfl rfl rfl rfl rfl rfl (by omega) (by omega) (by simp only [inK]; omega) (run_l tabOk ?_); conv => whnf) | (refine wl_mul rfl rfl rfl rfl rfl rfl (by omega) (by omega) (run_l tabOk ?_); conv => whnf) | (refine gs_dt (by first | assumption | omega) ?_; conv => whnf) | (refine gs_df (by first | assumption | omega) ?_; conv => whnf) | (refine gs_t (by assumption) ?_; conv => whnf) | (refine gs_f (by assumption) ?_; conv => whnf) | (refine gs_d (fun hg => ?_) (fun hg => ?_) <;> conv => whnf) | (refine gs_n (fun hg => ?_) (fun hg => ?_) <;> conv => whnf) | (refine gs_nb (fun hg => ?_) (fun hg => ?_) <;> conv => whnf) | (refine gs_b (fun hg => ?_) (fun hg => ?_) <;> conv => whnf) | refine fin1 rfl rfl ?_))
                    exact ⟨u + 1, ⟨rfl, rfl, rfl, rfl, rfl, rfl, rfl, rfl, trivial⟩, ⟨by omega, bup hBq hBr⟩, by omega⟩
                · conv => whnf
                  (repeat' (first | (refine wl_Lg tabOk hb3q rfl rfl rfl rfl rfl rfl rfl (run_l tabOk ?_); conv => whnf) | (refine wl_add rfl rfl rfl rfl rfl rfl (by omega) (by omega) (run_l tabOk ?_); conv => whnf) | (refine wl_sub rfl rfl rfl rfl rfl rfl (by omega) (by omega) (run_l tabOk ?_); conv => whnf) | (refine wl_cvA tabOk rfl rfl rfl (by simp only [inK]; omega) rfl rfl rfl (run_l tabOk ?_); conv => whnf) | (refine wl_cvB tabOk rfl rfl rfl rfl rfl rfl (run_l tabOk ?_); conv => whnf) | (refine wl_rem rfl rfl rfl rfl rfl rfl (by omega) (by omega) (fun r hr hr0 hr1 hr2 => run_l tabOk ?_); conv => whnf) | (refine wl_quo rfl rfl rfl rfl rfl rfl (by omega) (by omega) (by simp only [inK]; omega) (run_l tabOk ?_); conv => whnf) | (refine wl_mul rfl rfl rfl rfl rfl rfl (by omega) (by omega) (run_l tabOk ?_); conv => whnf) | (refine gs_dt (by first | assumption | omega) ?_; conv => whnf) | (refine gs_df (by first | assumption | omega) ?_; conv => whnf) | (refine gs_t (by assumption) ?_; conv => whnf) | (refine gs_f (by assumption) ?_; conv => whnf) | (refine gs_d (fun hg => ?_) (fun hg => ?_) <;> conv => whnf) | (refine gs_n (fun hg => ?_) (fun hg => ?_) <;> conv => whnf) | (refine gs_nb (fun hg => ?_) (fun hg => ?_) <;> conv => whnf) | (refine gs_b (fun hg => ?_) (fun hg => ?_) <;> conv => whnf) | refine fin1 rfl rfl ?_))
                  exact ⟨k + 1, ⟨rfl, rfl, rfl, rfl, rfl, rfl, trivial⟩, ⟨by omega, hBq⟩, by omega⟩
          · clear hbn hRn hup
            rcases hbc with ⟨rfl, hbn⟩ | ⟨rfl, hbn⟩ <;> rcases hRc with ⟨rfl, hRn⟩ | ⟨rfl, hRn⟩
            all_goals first
              | (exfalso; omega)
              | skip
            all_goals
              conv => whnf
              (repeat' (first | (refine wl_Lg tabOk hb3i rfl rfl rfl rfl rfl rfl rfl (run_l tabOk ?_); conv => whnf) | (refine wl_L tabOk rfl rfl rfl rfl rfl rfl hlv (run_l tabOk ?_); conv => whnf) | (refine wl_Xn tabOk 3 1 rfl rfl rfl rfl rfl rfl rfl (by omega) (run_l tabOk ?_); conv => whnf) | (refine wl_add rfl rfl rfl rfl rfl rfl (by omega) (by omega) (run_l tabOk ?_); conv => whnf) | (refine wl_sub rfl rfl rfl rfl rfl rfl (by omega) (by omega) (run_l tabOk ?_); conv => whnf) | (refine wl_cvA tabOk rfl rfl rfl (by simp only [inK]; omega) rfl rfl rfl (run_l tabOk ?_); conv => whnf) | (refine wl_cvB tabOk rfl rfl rfl rfl rfl rfl (run_l tabOk ?_); conv => whnf) | (refine wl_rem rfl rfl rfl rfl rfl rfl (by omega) (by omega) (fun r hr hr0 hr1 hr2 => run_l tabOk ?_); conv => whnf) | (refine wl_quo rfl rfl rfl rfl rfl rfl (by omega) (by omega) (by simp only [inK]; omega) (run_l tabOk ?_); conv => whnf) | (refine wl_mul rfl rfl rfl rfl rfl rfl (by omega) (by omega) (run_l tabOk ?_); conv => whnf) | (refine gs_dt (by first | assumption | omega) ?_; conv => whnf) | (refine gs_df (by first | assumption | omega) ?_; conv => whnf) | (refine gs_t (by assumption) ?_; conv => whnf) | (refine gs_f (by assumption) ?_; conv => whnf) | (refine gs_d (fun hg => ?_) (fun hg => ?_) <;> conv => whnf) | (refine gs_n (fun hg => ?_) (fun hg => ?_) <;> conv => whnf) | (refine gs_nb (fun hg => ?_) (fun hg => ?_) <;> conv => whnf) | (refine gs_b (fun hg => ?_) (fun hg => ?_) <;> conv => whnf) | refine fin1 rfl rfl ?_))
              all_goals
                refine wc_qr tabOk mixed (by kernel_rfl) ?_; conv => whnf
                (repeat' (first | (refine wq_L tabOk rfl rfl rfl rfl rfl rfl hlv (run_q tabOk ?_); conv => whnf) | (refine wq_L tabOk rfl rfl rfl rfl rfl rfl hzc (run_q tabOk ?_); conv => whnf) | (refine wq_Xn tabOk 3 1 rfl rfl rfl rfl rfl rfl rfl (by omega) (run_q tabOk ?_); conv => whnf) | (refine wq_X tabOk 3 1 rfl rfl rfl rfl rfl rfl rfl (by omega) (by omega) (run_q tabOk ?_); conv => whnf) | (refine wq_add rfl rfl rfl rfl rfl rfl (by omega) (by omega) (run_q tabOk ?_); conv => whnf) | (refine wq_sub rfl rfl rfl rfl rfl rfl (by omega) (by omega) (run_q tabOk ?_); conv => whnf) | (refine wq_cvA tabOk rfl rfl rfl (by simp only [inK]; omega) rfl rfl rfl (run_q tabOk ?_); conv => whnf) | (refine wq_cvB tabOk rfl rfl rfl rfl rfl rfl (run_q tabOk ?_); conv => whnf) | (refine wq_rem rfl rfl rfl rfl rfl rfl (by omega) (by omega) (fun r hr hr0 hr1 hr2 => run_q tabOk ?_); conv => whnf) | (refine wq_quo rfl rfl rfl rfl rfl rfl (by omega) (by omega) (by simp only [inK]; omega) (run_q tabOk ?_); conv => whnf) | (refine wq_mul rfl rfl rfl rfl rfl rfl (by omega) (by omega) (run_q tabOk ?_); conv => whnf) | (refine gs_dt (by first | assumption | omega) ?_; conv => whnf) | (refine gs_df (by first | assumption | omega) ?_; conv => whnf) | (refine gs_t (by assumption) ?_; conv => whnf) | (refine gs_f (by assumption) ?_; conv => whnf) | (refine gs_d (fun hg => ?_) (fun hg => ?_) <;> conv => whnf) | (refine gs_n (fun hg => ?_) (fun hg => ?_) <;> conv => whnf) | (refine gs_nb (fun hg => ?_) (fun hg => ?_) <;> conv => whnf) | (refine gs_b (fun hg => ?_) (fun hg => ?_) <;> conv => whnf)))
                intro w13 hB13
                have hlv := cell_up hB13 hlv
                conv => whnf
                (repeat' (first | (refine wl_L tabOk rfl rfl rfl rfl rfl rfl hlv (run_l tabOk ?_); conv => whnf) | (refine wl_Xn tabOk 3 1 rfl rfl rfl rfl rfl rfl rfl (by omega) (run_l tabOk ?_); conv => whnf) | (refine wl_add rfl rfl rfl rfl rfl rfl (by omega) (by omega) (run_l tabOk ?_); conv => whnf) | (refine wl_sub rfl rfl rfl rfl rfl rfl (by omega) (by omega) (run_l tabOk ?_); conv => whnf) | (refine wl_cvA tabOk rfl rfl rfl (by simp only [inK]; omega) rfl rfl rfl (run_l tabOk ?_); conv => whnf) | (refine wl_cvB tabOk rfl rfl rfl rfl rfl rfl (run_l tabOk ?_); conv => whnf) | (refine wl_rem rfl rfl rfl rfl rfl rfl (by omega) (by omega) (fun r hr hr0 hr1 hr2 => run_l tabOk ?_); conv => whnf) | (refine wl_quo rfl rfl rfl rfl rfl rfl (by omega) (by omega) (by simp only [inK]; omega) (run_l tabOk ?_); conv => whnf) | (refine wl_mul rfl rfl rfl rfl rfl rfl (by omega) (by omega) (run_l tabOk ?_); conv => whnf) | (refine gs_dt (by first | assumption | omega) ?_; conv => whnf) | (refine gs_df (by first | assumption | omega) ?_; conv => whnf) | (refine gs_t (by assumption) ?_; conv => whnf) | (refine gs_f (by assumption) ?_; conv => whnf) | (refine gs_d (fun hg => ?_) (fun hg => ?_) <;> conv => whnf) | (refine gs_n (fun hg => ?_) (fun hg => ?_) <;> conv => whnf) | (refine gs_nb (fun hg => ?_) (fun hg => ?_) <;> conv => whnf) | (refine gs_b (fun hg => ?_) (fun hg => ?_) <;> conv => whnf) | refine fin1 rfl rfl ?_))
              all_goals exact ⟨k + 1, ⟨rfl, rfl, rfl, rfl, rfl, rfl, trivial⟩, ⟨by omega, bup hOi.below (by assumption)⟩, by omega⟩
      · conv => whnf
        (repeat' (first | (refine wl_Lg tabOk hb3i rfl rfl rfl rfl rfl rfl rfl (run_l tabOk ?_); conv => whnf) | (refine wl_add rfl rfl rfl rfl rfl rfl (by omega) (by omega) (run_l tabOk ?_); conv => whnf) | (refine wl_sub rfl rfl rfl rfl rfl rfl (by omega) (by omega) (run_l tabOk ?_); conv => whnf) | (refine wl_cvA tabOk rfl rfl rfl (by simp only [inK]; omega) rfl rfl rfl (run_l tabOk ?_); conv => whnf) | (refine wl_cvB tabOk rfl rfl rfl rfl rfl rfl (run_l tabOk ?_); conv => whnf) | (refine wl_rem rfl rfl rfl rfl rfl rfl (by omega) (by omega) (fun r hr hr0 hr1 hr2 => run_l tabOk ?_); conv => whnf) | (refine wl_quo rfl rfl rfl rfl rfl rfl (by omega) (by omega) (by simp only [inK]; omega) (run_l tabOk ?_); conv => whnf) | (refine wl_mul rfl rfl rfl rfl rfl rfl (by omega) (by omega) (run_l tabOk ?_); conv => whnf) | (refine gs_dt (by first | assumption | omega) ?_; conv => whnf) | (refine gs_df (by first | assumption | omega) ?_; conv => whnf) | (refine gs_t (by assumption) ?_; conv => whnf) | (refine gs_f (by assumption) ?_; conv => whnf) | (refine gs_d (fun hg => ?_) (fun hg => ?_) <;> conv => whnf) | (refine gs_n (fun hg => ?_) (fun hg => ?_) <;> conv => whnf) | (refine gs_nb (fun hg => ?_) (fun hg => ?_) <;> conv => whnf) | (refine gs_b (fun hg => ?_) (fun hg => ?_) <;> conv => whnf) | refine fin1 rfl rfl ?_))
        exact ⟨k + 1, ⟨rfl, rfl, rfl, rfl, rfl, rfl, trivial⟩, ⟨by omega, hOi.below⟩, by omega⟩
  · conv => whnf
    (repeat' (first | (refine wl_add rfl rfl rfl rfl rfl rfl (by omega) (by omega) (run_l tabOk ?_); conv => whnf) | (refine wl_sub rfl rfl rfl rfl rfl rfl (by omega) (by omega) (run_l tabOk ?_); conv => whnf) | (refine wl_cvA tabOk rfl rfl rfl (by simp only [inK]; omega) rfl rfl rfl (run_l tabOk ?_); conv => whnf) | (refine wl_cvB tabOk rfl rfl rfl rfl rfl rfl (run_l tabOk ?_); conv => whnf) | (refine wl_rem rfl rfl rfl rfl rfl rfl (by omega) (by omega) (fun r hr hr0 hr1 hr2 => run_l tabOk ?_); conv => whnf) | (refine wl_quo rfl rfl rfl rfl rfl rfl (by omega) (by omega) (by simp only [inK]; omega) (run_l tabOk ?_); conv => whnf) | (refine wl_mul rfl rfl rfl rfl rfl rfl (by omega) (by omega) (run_l tabOk ?_); conv => whnf) | (refine gs_dt (by first | assumption | omega) ?_; conv => whnf) | (refine gs_df (by first | assumption | omega) ?_; conv => whnf) | (refine gs_t (by assumption) ?_; conv => whnf) | (refine gs_f (by assumption) ?_; conv => whnf) | (refine gs_d (fun hg => ?_) (fun hg => ?_) <;> conv => whnf) | (refine gs_n (fun hg => ?_) (fun hg => ?_) <;> conv => whnf) | (refine gs_nb (fun hg => ?_) (fun hg => ?_) <;> conv => whnf) | (refine gs_b (fun hg => ?_) (fun hg => ?_) <;> conv => whnf) | refine fin1 rfl rfl ?_))
    exact ⟨rfl, bup hB011 hBk⟩
end Go.Proofs.Ytomldckplkecbaa
