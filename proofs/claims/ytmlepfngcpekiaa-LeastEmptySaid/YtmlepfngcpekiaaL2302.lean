/- The walk of LeastEmpty. -/
import Derived.Test.YtmlepfngcpekiaaPT23
import Derived.Test.YtmlepfngcpekiaaL2301
import Derived.Test.YtmlepfngcpekiaaEX2
import Derived.Test.YtmlepfngcpekiaaL1206
namespace Go.Proofs.Ytmlepfngcpekiaa
open Go.RowKit
set_option linter.unusedVariables false
set_option linter.unusedSimpArgs false
set_option maxRecDepth 100000
/-- A row of the call's own whose elements look at elder blocks alone. -/
structure LRow {α : Type} [Inhabited α] (sz : Nat) (d : Dec α) (e : TypeId) (base : Nat) (w0 w : World) (v : Value) (xs : List α) : Prop where
  own : ∃ flat, w.ownsRow base e sz v xs.length flat ∧ ∀ w', Below w0.heap.size w0 w' → Elems sz d w' flat xs
section
variable {α : Type} [Inhabited α] {sz : Nat} {d : Dec α} {e : TypeId} {base : Nat} {w0 w w1 : World} {v v' : Value} {xs : List α}
theorem LRow.nil (sz : Nat) (d : Dec α) (e : TypeId) (base : Nat) (w0 w : World) : LRow sz d e base w0 w (.slice none 0 0) ([] : List α) := ⟨[], own_nil .., fun _ _ => Elems.nil ..⟩
theorem LRow.up (h : LRow sz d e base w0 w v xs) (hb : Below w.heap.size w w1) : LRow sz d e base w0 w1 v xs := by
  obtain ⟨flat, h1, h2⟩ := h.own
  exact ⟨flat, h1.kept (grown_of hb) (Classical.em _), h2⟩
theorem LRow.row (h : LRow sz d e base w0 w v xs) (hb : Below w0.heap.size w0 w) : ∃ A c, v = .slice A xs.length c ∧ xs.length ≤ c ∧ RowR sz d w A xs := by
  obtain ⟨flat, h1, h2⟩ := h.own
  exact row_of_own h1 rfl (h2 w hb)
theorem LRow.rowAt {A : Option Addr} {n c : Nat} (h : LRow sz d e base w0 w (.slice A n c) xs) (hb : Below w0.heap.size w0 w) : RowR sz d w A xs := by
  obtain ⟨A', c', e1, _, h2⟩ := h.row hb
  injection e1 with e1 _ _
  subst e1
  exact h2
end
theorem closed_zero {s : Sys} (h : ∀ c ∈ s.cons, ¬ c.k = 1) (n c : Nat) : ClosedM s (zeroM n c) := fun i hi => by
  have hk := h _ (mem_get hi)
  have hz : ∀ i o, mg (zeroM n c) i o = true → False := fun i o hm => by
    have h1 := zeroM_le n c (zeroM 0 0) i o hm
    rw [mg_out (zeroM_shape 0 0) (by omega)] at h1
    cases h1
  exact ⟨fun h => absurd h hk, fun _ _ _ o hm => (hz _ _ hm).elim, fun _ _ o _ hm => (hz _ _ hm).elim⟩
theorem matOf_empty (n nc m : Nat) : matOf n nc (List.replicate m []) = zeroM n nc := by
  unfold matOf zeroM
  refine List.ext_getElem (by simp) fun i h1 h2 => ?_
  simp only [List.getElem_map, List.getElem_range, List.getElem_replicate]
  have : (List.replicate m ([] : List Int)).getD i [] = [] := by
    rw [List.getD_eq_getElem?_getD]
    by_cases hi : i < m
    · rw [List.getElem?_eq_getElem (by simpa using hi)]; simp
    · rw [List.getElem?_eq_none (by simp; omega)]; rfl
  rw [this]
  rfl
theorem okPts_empty (n nc m : Nat) : okPts n nc (List.replicate m []) := fun v _ hv k hk => by
  rw [getElem!_pos _ v hv, List.getElem_replicate] at hk
  simp at hk
theorem ptsOf_zero (n nc : Nat) : ptsOf (zeroM n nc) = List.replicate n [] := by
  unfold ptsOf zeroM
  rw [List.map_replicate]
  congr 1
  unfold rowPts rowTo
  rw [List.map_eq_nil_iff, List.filter_eq_nil_iff]
  intro o ho
  have ho' : o < nc := by simpa using ho
  rw [getElem!_pos _ o (by simpa using ho')]
  simp
theorem rows_of_empty {w : World} {g m : Nat} (h : w.heap[g]? = some (.cells (List.replicate m [Value.slice none 0 0]).flatten.toArray 33 (0, 0))) (hm : m ≤ 9223372036854775807) : RRows w (some ⟨g, 0, none⟩) (List.replicate m []) := by
  have := (GMat.init (base := 0) h (Nat.zero_le _)).rows (by simpa using hm)
  exact this
theorem filter_take2 {α : Type} [Inhabited α] (p : α → Bool) {xs : List α} {i : Nat} (h : i < xs.length) : (xs.take (i + 1)).filter p = (xs.take i).filter p ++ (if p xs[i]! then [xs[i]!] else []) := by
  rw [take_next h, List.filter_append]
  congr 1
  by_cases hp : p xs[i]! = true
  · rw [if_pos hp, List.filter_cons_of_pos hp]; rfl
  · rw [if_neg hp, List.filter_cons_of_neg hp]; rfl
section
variable {P : Program} {T : Nat → Option TI} {n : Nat} {F : Fm} {w : World} {o : Oper} {K : Fm → World → Prop}
theorem wb_L (hT : TabOk P T) {t : TypeId} {x : Operand} {a : Addr} {v : Value} (hop : o.op = .load t x) (hx : ev F x = .pointer (some a)) (h1 : oneT T t = true) {d : Nat} (hd : o.dst = some d) (hn : Nat.blt d n = true) (hc : w.cell? a = some v) (k : K (upd F d v) w) : wb P n o F w K :=
  wb_val hd hn (by simp [execOp, hop, hx, Instr.loadAt, Instr.sureAddr, run_load_one hT h1 hc]) k
theorem wb_Lg (hT : TabOk P T) {t t' : TypeId} {x : Operand} {g off : Nat} {cs : Array Value} {fr : Nat × Nat} {v : Value} (hb : w.heap[g]? = some (.cells cs t' fr)) (hop : o.op = .load t x) (hx : ev F x = .pointer (some ⟨g, off, none⟩)) (h1 : oneT T t = true) {d : Nat} (hd : o.dst = some d) (hn : Nat.blt d n = true) (hv : cs[off]? = some v) (k : K (upd F d v) w) : wb P n o F w K :=
  wb_L hT hop hx h1 hd hn (cell_blk hb hv) k
theorem wb_Lag (hT : TabOk P T) {t t' : TypeId} {x : Operand} {g : Nat} {cs : List Value} {fr : Nat × Nat} (hb : w.heap[g]? = some (.cells cs.toArray t' fr)) (hop : o.op = .load t x) (hx : ev F x = .pointer (some ⟨g, 0, none⟩)) (h1 : aggT T t cs.length = true) {d : Nat} (hd : o.dst = some d) (hn : Nat.blt d n = true) (k : K (upd F d (.agg cs.toArray)) w) : wb P n o F w K := by
  refine wb_val hd hn ?_ k
  have h2 := aggT_run (P := P) (w := w) hT h1
  have h3 := run_loadCells (P := P) cs 0 #[] (cellsAt_blk hb cs 0 0 (by simp))
  simp [execOp, hop, hx, Instr.loadAt, Instr.sureAddr, loadVar, h2, loadCells, h3]
theorem wb_add {x y : Operand} {xt yt : TypeId} {a b : Int} (hop : o.op = .binOp .add xt x y yt) (hx : ev F x = .int .i64 a) (hy : ev F y = .int .i64 b) {d : Nat} (hd : o.dst = some d) (hn : Nat.blt d n = true) (h1 : -9223372036854775808 ≤ a + b) (h2 : a + b ≤ 9223372036854775807) (k : K (upd F d (.int .i64 (a + b))) w) : wb P n o F w K :=
  wb_val hd hn (by simp [execOp, hop, hx, hy, eqGuard, binOp, Op.intArith, wrap_in h1 h2]) k
end
/-- None is taken. -/
def noBase (c : Con) : Bool := !decide (c.k = 1)
theorem right_filter {n : Int} {xs : List Cell} {ys : List Con} {p : Con → Bool} (h : rightB ⟨n, xs, ys⟩ = true) : rightB ⟨n, xs, ys.filter p⟩ = true := by
  simp only [rightB, bigOk, Bool.and_eq_true, decide_eq_true_eq, List.all_eq_true] at h ⊢
  have := List.length_filter_le p ys
  exact ⟨⟨⟨h.1.1.1, by omega⟩, h.1.2⟩, fun c hc => h.2 c (List.mem_filter.1 hc).1⟩
set_option maxHeartbeats 8000000 in
theorem lawLeastEmpty (d : Draft) (A : Option Addr) (c : Nat) (w : World) (h : RActs w A d.acts) (hk : (0 ≤ d.vars ∧ d.vars ≤ 255) ∧ 0 ≤ d.cells ∧ d.cells ≤ 255) :
    Calls Try.prog 18 #[.agg #[.int .u8 d.vars, .int .u8 d.cells, .slice A d.acts.length c]] w fun e w' => e = .returned (.bool true) ∧ Below w.heap.size w w' := by
  refine enterR (args := [.agg #[.int .u8 d.vars, .int .u8 d.cells, .slice A d.acts.length c]]) tabOk Try.func18 rfl Try.ntmps18 rfl ?_; conv => whnf
  refine wl_box rfl rfl rfl rfl rfl rfl ?_
  intro g1 w1 hn1
  refine run_l tabOk ?_
  conv => whnf
  refine wl_C fn32 (awake23 _) rfl rfl rfl rfl rfl rfl rfl ?_
  rintro _ w2 ⟨rfl, hB2⟩
  have hb := blk_up hB2 hn1.blk
  have hB := bup hn1.below hB2
  refine ⟨_, rfl, run_l tabOk ?_⟩
  conv => whnf
  (repeat' (first | (refine wl_Lg tabOk hb rfl rfl rfl rfl rfl rfl rfl (run_l tabOk ?_); conv => whnf) | (refine wl_add rfl rfl rfl rfl rfl rfl (by omega) (by omega) (run_l tabOk ?_); conv => whnf) | (refine wl_sub rfl rfl rfl rfl rfl rfl (by omega) (by omega) (run_l tabOk ?_); conv => whnf) | (refine wl_cv tabOk .i64 rfl rfl rfl (by simp only [inK]; omega) rfl rfl rfl (run_l tabOk ?_); conv => whnf) | (refine wl_cv tabOk .u8 rfl rfl rfl (by simp only [inK]; omega) rfl rfl rfl (run_l tabOk ?_); conv => whnf) | (refine wl_cv tabOk .u16 rfl rfl rfl (by simp only [inK]; omega) rfl rfl rfl (run_l tabOk ?_); conv => whnf) | (refine wl_cv tabOk .i32 rfl rfl rfl (by simp only [inK]; omega) rfl rfl rfl (run_l tabOk ?_); conv => whnf) | (refine wl_cv tabOk .u32 rfl rfl rfl (by simp only [inK]; omega) rfl rfl rfl (run_l tabOk ?_); conv => whnf) | (refine wl_cv tabOk .u64 rfl rfl rfl (by simp only [inK]; omega) rfl rfl rfl (run_l tabOk ?_); conv => whnf) | (refine wl_cvw tabOk .i64 rfl rfl rfl rfl rfl rfl (run_l tabOk ?_); conv => whnf) | (refine wl_cvw tabOk .u8 rfl rfl rfl rfl rfl rfl (run_l tabOk ?_); conv => whnf) | (refine wl_cvw tabOk .u16 rfl rfl rfl rfl rfl rfl (run_l tabOk ?_); conv => whnf) | (refine wl_cvw tabOk .i32 rfl rfl rfl rfl rfl rfl (run_l tabOk ?_); conv => whnf) | (refine wl_cvw tabOk .u32 rfl rfl rfl rfl rfl rfl (run_l tabOk ?_); conv => whnf) | (refine wl_cvw tabOk .u64 rfl rfl rfl rfl rfl rfl (run_l tabOk ?_); conv => whnf) | (refine wl_rem rfl rfl rfl rfl rfl rfl (by omega) (by omega) (fun r hr hr0 hr1 hr2 => run_l tabOk ?_); conv => whnf) | (refine wl_quo rfl rfl rfl rfl rfl rfl (by omega) (by omega) (by simp only [inK]; omega) (run_l tabOk ?_); conv => whnf) | (refine wl_mul rfl rfl rfl rfl rfl rfl (by omega) (by omega) (run_l tabOk ?_); conv => whnf) | (refine gs_dt (by first | assumption | omega) ?_; conv => whnf) | (refine gs_df (by first | assumption | omega) ?_; conv => whnf) | (refine gs_t (by assumption) ?_; conv => whnf) | (refine gs_f (by assumption) ?_; conv => whnf) | (refine gs_d (fun hg => ?_) (fun hg => ?_) <;> conv => whnf) | (refine gs_n (fun hg => ?_) (fun hg => ?_) <;> conv => whnf) | (refine gs_nb (fun hg => ?_) (fun hg => ?_) <;> conv => whnf) | (refine gs_b (fun hg => ?_) (fun hg => ?_) <;> conv => whnf) | refine fin1 rfl rfl ?_))
  · refine wl_C fn32 (awake23 _) rfl rfl rfl rfl rfl rfl rfl ?_
    rintro _ w3 ⟨rfl, hB3⟩
    refine ⟨_, rfl, run_l tabOk ?_⟩
    conv => whnf
    (repeat' (first | (refine wl_add rfl rfl rfl rfl rfl rfl (by omega) (by omega) (run_l tabOk ?_); conv => whnf) | (refine wl_sub rfl rfl rfl rfl rfl rfl (by omega) (by omega) (run_l tabOk ?_); conv => whnf) | (refine wl_cv tabOk .i64 rfl rfl rfl (by simp only [inK]; omega) rfl rfl rfl (run_l tabOk ?_); conv => whnf) | (refine wl_cv tabOk .u8 rfl rfl rfl (by simp only [inK]; omega) rfl rfl rfl (run_l tabOk ?_); conv => whnf) | (refine wl_cv tabOk .u16 rfl rfl rfl (by simp only [inK]; omega) rfl rfl rfl (run_l tabOk ?_); conv => whnf) | (refine wl_cv tabOk .i32 rfl rfl rfl (by simp only [inK]; omega) rfl rfl rfl (run_l tabOk ?_); conv => whnf) | (refine wl_cv tabOk .u32 rfl rfl rfl (by simp only [inK]; omega) rfl rfl rfl (run_l tabOk ?_); conv => whnf) | (refine wl_cv tabOk .u64 rfl rfl rfl (by simp only [inK]; omega) rfl rfl rfl (run_l tabOk ?_); conv => whnf) | (refine wl_cvw tabOk .i64 rfl rfl rfl rfl rfl rfl (run_l tabOk ?_); conv => whnf) | (refine wl_cvw tabOk .u8 rfl rfl rfl rfl rfl rfl (run_l tabOk ?_); conv => whnf) | (refine wl_cvw tabOk .u16 rfl rfl rfl rfl rfl rfl (run_l tabOk ?_); conv => whnf) | (refine wl_cvw tabOk .i32 rfl rfl rfl rfl rfl rfl (run_l tabOk ?_); conv => whnf) | (refine wl_cvw tabOk .u32 rfl rfl rfl rfl rfl rfl (run_l tabOk ?_); conv => whnf) | (refine wl_cvw tabOk .u64 rfl rfl rfl rfl rfl rfl (run_l tabOk ?_); conv => whnf) | (refine wl_rem rfl rfl rfl rfl rfl rfl (by omega) (by omega) (fun r hr hr0 hr1 hr2 => run_l tabOk ?_); conv => whnf) | (refine wl_quo rfl rfl rfl rfl rfl rfl (by omega) (by omega) (by simp only [inK]; omega) (run_l tabOk ?_); conv => whnf) | (refine wl_mul rfl rfl rfl rfl rfl rfl (by omega) (by omega) (run_l tabOk ?_); conv => whnf) | (refine gs_dt (by first | assumption | omega) ?_; conv => whnf) | (refine gs_df (by first | assumption | omega) ?_; conv => whnf) | (refine gs_t (by assumption) ?_; conv => whnf) | (refine gs_f (by assumption) ?_; conv => whnf) | (refine gs_d (fun hg => ?_) (fun hg => ?_) <;> conv => whnf) | (refine gs_n (fun hg => ?_) (fun hg => ?_) <;> conv => whnf) | (refine gs_nb (fun hg => ?_) (fun hg => ?_) <;> conv => whnf) | (refine gs_b (fun hg => ?_) (fun hg => ?_) <;> conv => whnf) | refine fin1 rfl rfl ?_))
    exact ⟨rfl, bup hB hB3⟩
  (repeat' (first | (refine wl_Lag tabOk hb rfl rfl rfl rfl rfl rfl (run_l tabOk ?_); conv => whnf) | (refine wl_add rfl rfl rfl rfl rfl rfl (by omega) (by omega) (run_l tabOk ?_); conv => whnf) | (refine wl_sub rfl rfl rfl rfl rfl rfl (by omega) (by omega) (run_l tabOk ?_); conv => whnf) | (refine wl_cv tabOk .i64 rfl rfl rfl (by simp only [inK]; omega) rfl rfl rfl (run_l tabOk ?_); conv => whnf) | (refine wl_cv tabOk .u8 rfl rfl rfl (by simp only [inK]; omega) rfl rfl rfl (run_l tabOk ?_); conv => whnf) | (refine wl_cv tabOk .u16 rfl rfl rfl (by simp only [inK]; omega) rfl rfl rfl (run_l tabOk ?_); conv => whnf) | (refine wl_cv tabOk .i32 rfl rfl rfl (by simp only [inK]; omega) rfl rfl rfl (run_l tabOk ?_); conv => whnf) | (refine wl_cv tabOk .u32 rfl rfl rfl (by simp only [inK]; omega) rfl rfl rfl (run_l tabOk ?_); conv => whnf) | (refine wl_cv tabOk .u64 rfl rfl rfl (by simp only [inK]; omega) rfl rfl rfl (run_l tabOk ?_); conv => whnf) | (refine wl_cvw tabOk .i64 rfl rfl rfl rfl rfl rfl (run_l tabOk ?_); conv => whnf) | (refine wl_cvw tabOk .u8 rfl rfl rfl rfl rfl rfl (run_l tabOk ?_); conv => whnf) | (refine wl_cvw tabOk .u16 rfl rfl rfl rfl rfl rfl (run_l tabOk ?_); conv => whnf) | (refine wl_cvw tabOk .i32 rfl rfl rfl rfl rfl rfl (run_l tabOk ?_); conv => whnf) | (refine wl_cvw tabOk .u32 rfl rfl rfl rfl rfl rfl (run_l tabOk ?_); conv => whnf) | (refine wl_cvw tabOk .u64 rfl rfl rfl rfl rfl rfl (run_l tabOk ?_); conv => whnf) | (refine wl_rem rfl rfl rfl rfl rfl rfl (by omega) (by omega) (fun r hr hr0 hr1 hr2 => run_l tabOk ?_); conv => whnf) | (refine wl_quo rfl rfl rfl rfl rfl rfl (by omega) (by omega) (by simp only [inK]; omega) (run_l tabOk ?_); conv => whnf) | (refine wl_mul rfl rfl rfl rfl rfl rfl (by omega) (by omega) (run_l tabOk ?_); conv => whnf) | (refine gs_dt (by first | assumption | omega) ?_; conv => whnf) | (refine gs_df (by first | assumption | omega) ?_; conv => whnf) | (refine gs_t (by assumption) ?_; conv => whnf) | (refine gs_f (by assumption) ?_; conv => whnf) | (refine gs_d (fun hg => ?_) (fun hg => ?_) <;> conv => whnf) | (refine gs_n (fun hg => ?_) (fun hg => ?_) <;> conv => whnf) | (refine gs_nb (fun hg => ?_) (fun hg => ?_) <;> conv => whnf) | (refine gs_b (fun hg => ?_) (fun hg => ?_) <;> conv => whnf) | refine fin1 rfl rfl ?_))
  refine wl_C fn22 (refMake d A c w2 (h.up stays_Act hB) hk.1 hk.2) rfl rfl rfl rfl rfl rfl rfl ?_
  rintro _ w3 ⟨s, va, vb', bs, cs, rfl, hB3, hM⟩
  have hright := hM.right
  have hncons := hM.ncons
  have hvars := hM.vars
  obtain ⟨A1, c1, rfl, _, hr1⟩ := hM.cells.row
  obtain ⟨A2, c2, rfl, _, hr2⟩ := hM.cons.row
  have hB03 := bup hB hB3
  clear hM hb hB2 hn1
  obtain ⟨vars, xs, ys⟩ := s
  simp only at hright hncons hvars hr1 hr2
  obtain ⟨n, rfl⟩ : ∃ n : Nat, vars = n := ⟨vars.toNat, by omega⟩
  refine ⟨_, rfl, run_l tabOk ?_⟩
  conv => whnf
  refine wl_alloc tabOk rfl rfl rfl rfl rfl rfl ?_
  intro g3 w4 hn4
  refine wl_Sa tabOk hn4.blk rfl rfl rfl rfl rfl (by simp [Value.oneCell']) rfl rfl ?_
  intro w5 hp5
  have hB5 : Below w3.heap.size w3 w5 := hp5.below hn4.below (by have := hn4.at_; omega) (by have := hn4.size; omega)
  have hb3 : w5.heap[g3]? = some (.cells #[.int .i64 n, .slice A1 xs.length c1, .slice A2 ys.length c2] 25 (0, 0)) := hp5.blk
  have hg3 : w3.heap.size = g3 := by have := hn4.at_; omega
  have hB05 := bup hB03 hB5
  have hg3l := blk_lt hb3
  clear hp5 hn4 hB03
  have hm2 := hr2.1
  refine run_l tabOk ?_
  conv => whnf
  refine lp_loop tabOk (X := Nat × Option Addr × Nat) (fun x => [(3, .pointer (some ⟨g3, 0, none⟩)), (4, .slice x.2.1 ((ys.take x.1).filter noBase).length x.2.2), (5, .int .i64 x.1)])
    (fun x wr => x.1 ≤ ys.length ∧ Below w5.heap.size w5 wr ∧ LRow 4 dCon 35 w5.heap.size w3 wr (.slice x.2.1 ((ys.take x.1).filter noBase).length x.2.2) ((ys.take x.1).filter noBase)) (fun x => ys.length - x.1) (0, none, 0) ⟨rfl, rfl, rfl, trivial⟩ ⟨by simp, Below.refl _ _, LRow.nil ..⟩ ?_
  rintro ⟨i, D, dc⟩ G wr ⟨hi, hBr, hrow⟩
  simp only at hi hBr hrow
  conv => whnf
  have hb3r := blk_up hBr hb3
  have hB3r := bup hB5 hBr
  by_cases hil : i < ys.length
  · obtain ⟨x, ad, D1, dc1, hx, rfl, e0, hc0, hra, hka, hkb, hva, hvb⟩ := consE hr2 i hil
    obtain ⟨x', ad', D2, dc2, hx', e1, f0, _⟩ := cons_at (hr2.up stays_Con hB3r) i hil
    cases e1
    have exx : x' = x := hx'.out.symm.trans hx.out
    subst exx
    have e0r := cellsAt_up hB3r e0
    have hft := filter_take2 noBase hil
    rw [hx.out] at hft
    obtain ⟨flat, hown, hel⟩ := hrow.own
    have hsm := List.length_filter_le noBase (ys.take i)
    rw [List.length_take] at hsm
    (repeat' (first | (refine wl_Lg tabOk hb3r rfl rfl rfl rfl rfl rfl rfl (run_l tabOk ?_); conv => whnf) | (refine wl_L tabOk rfl rfl rfl rfl rfl rfl f0 (run_l tabOk ?_); conv => whnf) | (refine wl_Xn tabOk 35 4 rfl rfl rfl rfl rfl rfl rfl (by omega) (run_l tabOk ?_); conv => whnf) | (refine wl_add rfl rfl rfl rfl rfl rfl (by omega) (by omega) (run_l tabOk ?_); conv => whnf) | (refine wl_sub rfl rfl rfl rfl rfl rfl (by omega) (by omega) (run_l tabOk ?_); conv => whnf) | (refine wl_cv tabOk .i64 rfl rfl rfl (by simp only [inK]; omega) rfl rfl rfl (run_l tabOk ?_); conv => whnf) | (refine wl_cv tabOk .u8 rfl rfl rfl (by simp only [inK]; omega) rfl rfl rfl (run_l tabOk ?_); conv => whnf) | (refine wl_cv tabOk .u16 rfl rfl rfl (by simp only [inK]; omega) rfl rfl rfl (run_l tabOk ?_); conv => whnf) | (refine wl_cv tabOk .i32 rfl rfl rfl (by simp only [inK]; omega) rfl rfl rfl (run_l tabOk ?_); conv => whnf) | (refine wl_cv tabOk .u32 rfl rfl rfl (by simp only [inK]; omega) rfl rfl rfl (run_l tabOk ?_); conv => whnf) | (refine wl_cv tabOk .u64 rfl rfl rfl (by simp only [inK]; omega) rfl rfl rfl (run_l tabOk ?_); conv => whnf) | (refine wl_cvw tabOk .i64 rfl rfl rfl rfl rfl rfl (run_l tabOk ?_); conv => whnf) | (refine wl_cvw tabOk .u8 rfl rfl rfl rfl rfl rfl (run_l tabOk ?_); conv => whnf) | (refine wl_cvw tabOk .u16 rfl rfl rfl rfl rfl rfl (run_l tabOk ?_); conv => whnf) | (refine wl_cvw tabOk .i32 rfl rfl rfl rfl rfl rfl (run_l tabOk ?_); conv => whnf) | (refine wl_cvw tabOk .u32 rfl rfl rfl rfl rfl rfl (run_l tabOk ?_); conv => whnf) | (refine wl_cvw tabOk .u64 rfl rfl rfl rfl rfl rfl (run_l tabOk ?_); conv => whnf) | (refine wl_rem rfl rfl rfl rfl rfl rfl (by omega) (by omega) (fun r hr hr0 hr1 hr2 => run_l tabOk ?_); conv => whnf) | (refine wl_quo rfl rfl rfl rfl rfl rfl (by omega) (by omega) (by simp only [inK]; omega) (run_l tabOk ?_); conv => whnf) | (refine wl_mul rfl rfl rfl rfl rfl rfl (by omega) (by omega) (run_l tabOk ?_); conv => whnf) | (refine gs_dt (by first | assumption | omega) ?_; conv => whnf) | (refine gs_df (by first | assumption | omega) ?_; conv => whnf) | (refine gs_t (by assumption) ?_; conv => whnf) | (refine gs_f (by assumption) ?_; conv => whnf) | (refine gs_d (fun hg => ?_) (fun hg => ?_) <;> conv => whnf) | (refine gs_n (fun hg => ?_) (fun hg => ?_) <;> conv => whnf) | (refine gs_nb (fun hg => ?_) (fun hg => ?_) <;> conv => whnf) | (refine gs_b (fun hg => ?_) (fun hg => ?_) <;> conv => whnf) | refine fin1 rfl rfl ?_))
    · have hkp : noBase x' = true := by simp [noBase]; omega
      rw [if_pos hkp] at hft
      have hlen : ((ys.take (i + 1)).filter noBase).length = ((ys.take i).filter noBase).length + 1 := by rw [hft]; simp
      (repeat' (first | (refine wl_Lg tabOk hb3r rfl rfl rfl rfl rfl rfl rfl (run_l tabOk ?_); conv => whnf) | (refine wl_Xn tabOk 35 4 rfl rfl rfl rfl rfl rfl rfl (by omega) (run_l tabOk ?_); conv => whnf) | (refine wl_La tabOk e0r rfl rfl rfl rfl rfl rfl (run_l tabOk ?_); conv => whnf) | (refine wl_add rfl rfl rfl rfl rfl rfl (by omega) (by omega) (run_l tabOk ?_); conv => whnf) | (refine wl_sub rfl rfl rfl rfl rfl rfl (by omega) (by omega) (run_l tabOk ?_); conv => whnf) | (refine wl_cv tabOk .i64 rfl rfl rfl (by simp only [inK]; omega) rfl rfl rfl (run_l tabOk ?_); conv => whnf) | (refine wl_cv tabOk .u8 rfl rfl rfl (by simp only [inK]; omega) rfl rfl rfl (run_l tabOk ?_); conv => whnf) | (refine wl_cv tabOk .u16 rfl rfl rfl (by simp only [inK]; omega) rfl rfl rfl (run_l tabOk ?_); conv => whnf) | (refine wl_cv tabOk .i32 rfl rfl rfl (by simp only [inK]; omega) rfl rfl rfl (run_l tabOk ?_); conv => whnf) | (refine wl_cv tabOk .u32 rfl rfl rfl (by simp only [inK]; omega) rfl rfl rfl (run_l tabOk ?_); conv => whnf) | (refine wl_cv tabOk .u64 rfl rfl rfl (by simp only [inK]; omega) rfl rfl rfl (run_l tabOk ?_); conv => whnf) | (refine wl_cvw tabOk .i64 rfl rfl rfl rfl rfl rfl (run_l tabOk ?_); conv => whnf) | (refine wl_cvw tabOk .u8 rfl rfl rfl rfl rfl rfl (run_l tabOk ?_); conv => whnf) | (refine wl_cvw tabOk .u16 rfl rfl rfl rfl rfl rfl (run_l tabOk ?_); conv => whnf) | (refine wl_cvw tabOk .i32 rfl rfl rfl rfl rfl rfl (run_l tabOk ?_); conv => whnf) | (refine wl_cvw tabOk .u32 rfl rfl rfl rfl rfl rfl (run_l tabOk ?_); conv => whnf) | (refine wl_cvw tabOk .u64 rfl rfl rfl rfl rfl rfl (run_l tabOk ?_); conv => whnf) | (refine wl_rem rfl rfl rfl rfl rfl rfl (by omega) (by omega) (fun r hr hr0 hr1 hr2 => run_l tabOk ?_); conv => whnf) | (refine wl_quo rfl rfl rfl rfl rfl rfl (by omega) (by omega) (by simp only [inK]; omega) (run_l tabOk ?_); conv => whnf) | (refine wl_mul rfl rfl rfl rfl rfl rfl (by omega) (by omega) (run_l tabOk ?_); conv => whnf) | (refine gs_dt (by first | assumption | omega) ?_; conv => whnf) | (refine gs_df (by first | assumption | omega) ?_; conv => whnf) | (refine gs_t (by assumption) ?_; conv => whnf) | (refine gs_f (by assumption) ?_; conv => whnf) | (refine gs_d (fun hg => ?_) (fun hg => ?_) <;> conv => whnf) | (refine gs_n (fun hg => ?_) (fun hg => ?_) <;> conv => whnf) | (refine gs_nb (fun hg => ?_) (fun hg => ?_) <;> conv => whnf) | (refine gs_b (fun hg => ?_) (fun hg => ?_) <;> conv => whnf) | refine fin1 rfl rfl ?_))
      refine wl_bs tabOk 35 4 rfl rfl rfl rfl rfl rfl rfl rfl rfl rfl ?_
      intro gn u1 hn
      refine run_l tabOk ?_
      conv => whnf
      refine wl_ap tabOk 35 4 48 (hown.kept (grown_of hn.below) (Classical.em _)) hn.blk rfl rfl rfl rfl rfl rfl rfl rfl rfl rfl rfl rfl (by simp [Value.oneCell']) (by omega) (by omega) (by have := hn.size; have := hBr.size; omega) ?_
      intro E ec u2 hown2 hg2 hob2
      refine run_l tabOk ?_
      conv => whnf
      (repeat' (first | (refine wl_add rfl rfl rfl rfl rfl rfl (by omega) (by omega) (run_l tabOk ?_); conv => whnf) | (refine wl_sub rfl rfl rfl rfl rfl rfl (by omega) (by omega) (run_l tabOk ?_); conv => whnf) | (refine wl_cv tabOk .i64 rfl rfl rfl (by simp only [inK]; omega) rfl rfl rfl (run_l tabOk ?_); conv => whnf) | (refine wl_cv tabOk .u8 rfl rfl rfl (by simp only [inK]; omega) rfl rfl rfl (run_l tabOk ?_); conv => whnf) | (refine wl_cv tabOk .u16 rfl rfl rfl (by simp only [inK]; omega) rfl rfl rfl (run_l tabOk ?_); conv => whnf) | (refine wl_cv tabOk .i32 rfl rfl rfl (by simp only [inK]; omega) rfl rfl rfl (run_l tabOk ?_); conv => whnf) | (refine wl_cv tabOk .u32 rfl rfl rfl (by simp only [inK]; omega) rfl rfl rfl (run_l tabOk ?_); conv => whnf) | (refine wl_cv tabOk .u64 rfl rfl rfl (by simp only [inK]; omega) rfl rfl rfl (run_l tabOk ?_); conv => whnf) | (refine wl_cvw tabOk .i64 rfl rfl rfl rfl rfl rfl (run_l tabOk ?_); conv => whnf) | (refine wl_cvw tabOk .u8 rfl rfl rfl rfl rfl rfl (run_l tabOk ?_); conv => whnf) | (refine wl_cvw tabOk .u16 rfl rfl rfl rfl rfl rfl (run_l tabOk ?_); conv => whnf) | (refine wl_cvw tabOk .i32 rfl rfl rfl rfl rfl rfl (run_l tabOk ?_); conv => whnf) | (refine wl_cvw tabOk .u32 rfl rfl rfl rfl rfl rfl (run_l tabOk ?_); conv => whnf) | (refine wl_cvw tabOk .u64 rfl rfl rfl rfl rfl rfl (run_l tabOk ?_); conv => whnf) | (refine wl_rem rfl rfl rfl rfl rfl rfl (by omega) (by omega) (fun r hr hr0 hr1 hr2 => run_l tabOk ?_); conv => whnf) | (refine wl_quo rfl rfl rfl rfl rfl rfl (by omega) (by omega) (by simp only [inK]; omega) (run_l tabOk ?_); conv => whnf) | (refine wl_mul rfl rfl rfl rfl rfl rfl (by omega) (by omega) (run_l tabOk ?_); conv => whnf) | (refine gs_dt (by first | assumption | omega) ?_; conv => whnf) | (refine gs_df (by first | assumption | omega) ?_; conv => whnf) | (refine gs_t (by assumption) ?_; conv => whnf) | (refine gs_f (by assumption) ?_; conv => whnf) | (refine gs_d (fun hg => ?_) (fun hg => ?_) <;> conv => whnf) | (refine gs_n (fun hg => ?_) (fun hg => ?_) <;> conv => whnf) | (refine gs_nb (fun hg => ?_) (fun hg => ?_) <;> conv => whnf) | (refine gs_b (fun hg => ?_) (fun hg => ?_) <;> conv => whnf) | refine fin1 rfl rfl ?_))
      have hB2 : Below w5.heap.size w5 u2 := (bup hBr hn.below).grown hg2 (by have := hn.size; have := hBr.size; omega) (fun k hk => (hown.lt k hk).1)
      refine ⟨(i + 1, E, ec), ⟨rfl, by simp only [hlen] <;> rfl, rfl, trivial⟩, ⟨by simp only; omega, hB2, ?_⟩, by simp only; omega⟩
      simp only [hlen]
      rw [hft]
      refine ⟨_, by simpa using hown2, fun w' hw' => (hel w' hw').push rfl ⟨D1, dc1, rfl, hc0, hra.out.up (stays_I _) hw', ⟨hka, hkb⟩, hva, hvb⟩⟩
    · have hkp : ¬ noBase x' = true := by simp [noBase]; omega
      rw [if_neg hkp, List.append_nil] at hft
      exact ⟨(i + 1, D, dc), ⟨rfl, by simp only [hft] <;> rfl, rfl, trivial⟩, ⟨by simp only; omega, hBr, by simp only [hft]; exact hrow⟩, by simp only; omega⟩
  · rw [List.take_of_length_le (by omega)] at hrow
    obtain ⟨zs, hzs⟩ : ∃ zs, zs = ys.filter noBase := ⟨_, rfl⟩
    have hright2 : rightB ⟨n, xs, zs⟩ = true := by rw [hzs]; exact right_filter hright
    have hnb : ∀ c ∈ zs, ¬ c.k = 1 := fun c hc => by
      rw [hzs] at hc
      have := (List.mem_filter.1 hc).2
      simpa [noBase] using this
    rw [← hzs] at hrow
    have ef : (ys.take i).filter noBase = zs := by rw [hzs, List.take_of_length_le (by omega)]
    (repeat' (first | (refine wl_Lg tabOk hb3r rfl rfl rfl rfl rfl rfl rfl (run_l tabOk ?_); conv => whnf) | (refine wl_add rfl rfl rfl rfl rfl rfl (by omega) (by omega) (run_l tabOk ?_); conv => whnf) | (refine wl_sub rfl rfl rfl rfl rfl rfl (by omega) (by omega) (run_l tabOk ?_); conv => whnf) | (refine wl_cv tabOk .i64 rfl rfl rfl (by simp only [inK]; omega) rfl rfl rfl (run_l tabOk ?_); conv => whnf) | (refine wl_cv tabOk .u8 rfl rfl rfl (by simp only [inK]; omega) rfl rfl rfl (run_l tabOk ?_); conv => whnf) | (refine wl_cv tabOk .u16 rfl rfl rfl (by simp only [inK]; omega) rfl rfl rfl (run_l tabOk ?_); conv => whnf) | (refine wl_cv tabOk .i32 rfl rfl rfl (by simp only [inK]; omega) rfl rfl rfl (run_l tabOk ?_); conv => whnf) | (refine wl_cv tabOk .u32 rfl rfl rfl (by simp only [inK]; omega) rfl rfl rfl (run_l tabOk ?_); conv => whnf) | (refine wl_cv tabOk .u64 rfl rfl rfl (by simp only [inK]; omega) rfl rfl rfl (run_l tabOk ?_); conv => whnf) | (refine wl_cvw tabOk .i64 rfl rfl rfl rfl rfl rfl (run_l tabOk ?_); conv => whnf) | (refine wl_cvw tabOk .u8 rfl rfl rfl rfl rfl rfl (run_l tabOk ?_); conv => whnf) | (refine wl_cvw tabOk .u16 rfl rfl rfl rfl rfl rfl (run_l tabOk ?_); conv => whnf) | (refine wl_cvw tabOk .i32 rfl rfl rfl rfl rfl rfl (run_l tabOk ?_); conv => whnf) | (refine wl_cvw tabOk .u32 rfl rfl rfl rfl rfl rfl (run_l tabOk ?_); conv => whnf) | (refine wl_cvw tabOk .u64 rfl rfl rfl rfl rfl rfl (run_l tabOk ?_); conv => whnf) | (refine wl_rem rfl rfl rfl rfl rfl rfl (by omega) (by omega) (fun r hr hr0 hr1 hr2 => run_l tabOk ?_); conv => whnf) | (refine wl_quo rfl rfl rfl rfl rfl rfl (by omega) (by omega) (by simp only [inK]; omega) (run_l tabOk ?_); conv => whnf) | (refine wl_mul rfl rfl rfl rfl rfl rfl (by omega) (by omega) (run_l tabOk ?_); conv => whnf) | (refine gs_dt (by first | assumption | omega) ?_; conv => whnf) | (refine gs_df (by first | assumption | omega) ?_; conv => whnf) | (refine gs_t (by assumption) ?_; conv => whnf) | (refine gs_f (by assumption) ?_; conv => whnf) | (refine gs_d (fun hg => ?_) (fun hg => ?_) <;> conv => whnf) | (refine gs_n (fun hg => ?_) (fun hg => ?_) <;> conv => whnf) | (refine gs_nb (fun hg => ?_) (fun hg => ?_) <;> conv => whnf) | (refine gs_b (fun hg => ?_) (fun hg => ?_) <;> conv => whnf) | refine fin1 rfl rfl ?_))
    refine wl_S (off := 2) (v := .slice D zs.length dc) tabOk hb3r rfl rfl (by rw [← ef]; rfl) rfl rfl rfl (by simp) rfl rfl ?_
    intro w6 hp6
    have hb6 : w6.heap[g3]? = some (.cells #[.int .i64 n, .slice A1 xs.length c1, .slice D zs.length dc] 25 (0, 0)) := hp6.blk
    have hB36 : Below w3.heap.size w3 w6 := hp6.below hB3r (by omega) hB3r.size
    have hrow6 : LRow 4 dCon 35 w5.heap.size w3 w6 (.slice D zs.length dc) zs := by
      obtain ⟨flat, o1, o2⟩ := hrow.own
      exact ⟨flat, o1.kept hp6.grown (.inr fun e => by have := (o1.lt _ e).1; omega), o2⟩
    have hrt := hrow6.rowAt hB36
    have hr1 := hr1.up stays_Cell hB36
    have hBw : Below w.heap.size w w6 := hp6.below (bup hB05 hBr) (by have := hB.size; have := hB3.size; omega) (bup hB05 hBr).size
    refine run_l tabOk ?_
    conv => whnf
    (repeat' (first | (refine wl_Lag tabOk hb6 rfl rfl rfl rfl rfl rfl (run_l tabOk ?_); conv => whnf) | (refine wl_add rfl rfl rfl rfl rfl rfl (by omega) (by omega) (run_l tabOk ?_); conv => whnf) | (refine wl_sub rfl rfl rfl rfl rfl rfl (by omega) (by omega) (run_l tabOk ?_); conv => whnf) | (refine wl_cv tabOk .i64 rfl rfl rfl (by simp only [inK]; omega) rfl rfl rfl (run_l tabOk ?_); conv => whnf) | (refine wl_cv tabOk .u8 rfl rfl rfl (by simp only [inK]; omega) rfl rfl rfl (run_l tabOk ?_); conv => whnf) | (refine wl_cv tabOk .u16 rfl rfl rfl (by simp only [inK]; omega) rfl rfl rfl (run_l tabOk ?_); conv => whnf) | (refine wl_cv tabOk .i32 rfl rfl rfl (by simp only [inK]; omega) rfl rfl rfl (run_l tabOk ?_); conv => whnf) | (refine wl_cv tabOk .u32 rfl rfl rfl (by simp only [inK]; omega) rfl rfl rfl (run_l tabOk ?_); conv => whnf) | (refine wl_cv tabOk .u64 rfl rfl rfl (by simp only [inK]; omega) rfl rfl rfl (run_l tabOk ?_); conv => whnf) | (refine wl_cvw tabOk .i64 rfl rfl rfl rfl rfl rfl (run_l tabOk ?_); conv => whnf) | (refine wl_cvw tabOk .u8 rfl rfl rfl rfl rfl rfl (run_l tabOk ?_); conv => whnf) | (refine wl_cvw tabOk .u16 rfl rfl rfl rfl rfl rfl (run_l tabOk ?_); conv => whnf) | (refine wl_cvw tabOk .i32 rfl rfl rfl rfl rfl rfl (run_l tabOk ?_); conv => whnf) | (refine wl_cvw tabOk .u32 rfl rfl rfl rfl rfl rfl (run_l tabOk ?_); conv => whnf) | (refine wl_cvw tabOk .u64 rfl rfl rfl rfl rfl rfl (run_l tabOk ?_); conv => whnf) | (refine wl_rem rfl rfl rfl rfl rfl rfl (by omega) (by omega) (fun r hr hr0 hr1 hr2 => run_l tabOk ?_); conv => whnf) | (refine wl_quo rfl rfl rfl rfl rfl rfl (by omega) (by omega) (by simp only [inK]; omega) (run_l tabOk ?_); conv => whnf) | (refine wl_mul rfl rfl rfl rfl rfl rfl (by omega) (by omega) (run_l tabOk ?_); conv => whnf) | (refine gs_dt (by first | assumption | omega) ?_; conv => whnf) | (refine gs_df (by first | assumption | omega) ?_; conv => whnf) | (refine gs_t (by assumption) ?_; conv => whnf) | (refine gs_f (by assumption) ?_; conv => whnf) | (refine gs_d (fun hg => ?_) (fun hg => ?_) <;> conv => whnf) | (refine gs_n (fun hg => ?_) (fun hg => ?_) <;> conv => whnf) | (refine gs_nb (fun hg => ?_) (fun hg => ?_) <;> conv => whnf) | (refine gs_b (fun hg => ?_) (fun hg => ?_) <;> conv => whnf) | refine fin1 rfl rfl ?_))
    refine wl_C fn37 (leastPoints n xs zs A1 D c1 dc w6 hr1 hrt hright2) rfl rfl rfl rfl rfl rfl rfl ?_
    rintro _ w7 ⟨M, Ap, rfl, hIL, hpts, hB7⟩
    have hz : IsLeast ⟨n, xs, zs⟩ (zeroM n xs.length) := ⟨by simpa using zeroM_shape n xs.length, closed_zero hnb _ _, fun N _ => zeroM_le _ _ N⟩
    have hMz := hIL.unique hz
    subst hMz
    rw [ptsOf_zero] at hpts
    have hb7 := blk_up hB7 hb6
    have hr1 := hr1.up stays_Cell hB7
    have hrt := hrt.up stays_Con hB7
    have hBw := bup hBw hB7
    refine ⟨_, rfl, run_l tabOk ?_⟩
    conv => whnf
    have hk9 : ∀ b, (b = true ↔ Keeping ⟨n, xs, zs⟩ (List.replicate n [])) → b = true := fun b hb => hb.2 ⟨hright2, by simp, by simpa using okPts_empty n xs.length n, by simp only [Int.toNat_natCast]; rw [matOf_empty]; exact closed_zero hnb _ _⟩
    have hk17 : ∀ b, (b = true ↔ Keeping ⟨n, xs, zs⟩ (List.replicate (n + 1) [])) → b = false := fun b hb => by
      cases b with
      | false => rfl
      | true =>
        have := (hb.1 rfl).2.1
        simp only [List.length_replicate] at this
        omega
    refine lp_loop tabOk (X := Nat) (fun v => [(3, .pointer (some ⟨g3, 0, none⟩)), (6, .slice Ap n n), (7, .int .i64 v)]) (fun v wr => v ≤ n ∧ w7 = wr) (fun v => n - v) 0 ⟨rfl, rfl, rfl, trivial⟩ ⟨by omega, rfl⟩ ?_
    rintro v G2 _ ⟨hv, rfl⟩
    conv => whnf
    by_cases hvl : v < n
    · obtain ⟨p, ad, P1, pc, hpp, rfl, e0, _, _⟩ := rowsE hpts v (by simpa using hvl)
      have hp0 : p = [] := by
        rw [← hpp.out, getElem!_pos _ v (by simpa using hvl)]
        simp
      subst hp0
      have e0 : w7.cell? (ad.add (v * 1)) = some (.slice P1 0 pc) := e0
      (repeat' (first | (refine wl_L tabOk rfl rfl rfl rfl rfl rfl e0 (run_l tabOk ?_); conv => whnf) | (refine wl_Xn tabOk 33 1 rfl rfl rfl rfl rfl rfl rfl (by omega) (run_l tabOk ?_); conv => whnf) | (refine wl_add rfl rfl rfl rfl rfl rfl (by omega) (by omega) (run_l tabOk ?_); conv => whnf) | (refine wl_sub rfl rfl rfl rfl rfl rfl (by omega) (by omega) (run_l tabOk ?_); conv => whnf) | (refine wl_cv tabOk .i64 rfl rfl rfl (by simp only [inK]; omega) rfl rfl rfl (run_l tabOk ?_); conv => whnf) | (refine wl_cv tabOk .u8 rfl rfl rfl (by simp only [inK]; omega) rfl rfl rfl (run_l tabOk ?_); conv => whnf) | (refine wl_cv tabOk .u16 rfl rfl rfl (by simp only [inK]; omega) rfl rfl rfl (run_l tabOk ?_); conv => whnf) | (refine wl_cv tabOk .i32 rfl rfl rfl (by simp only [inK]; omega) rfl rfl rfl (run_l tabOk ?_); conv => whnf) | (refine wl_cv tabOk .u32 rfl rfl rfl (by simp only [inK]; omega) rfl rfl rfl (run_l tabOk ?_); conv => whnf) | (refine wl_cv tabOk .u64 rfl rfl rfl (by simp only [inK]; omega) rfl rfl rfl (run_l tabOk ?_); conv => whnf) | (refine wl_cvw tabOk .i64 rfl rfl rfl rfl rfl rfl (run_l tabOk ?_); conv => whnf) | (refine wl_cvw tabOk .u8 rfl rfl rfl rfl rfl rfl (run_l tabOk ?_); conv => whnf) | (refine wl_cvw tabOk .u16 rfl rfl rfl rfl rfl rfl (run_l tabOk ?_); conv => whnf) | (refine wl_cvw tabOk .i32 rfl rfl rfl rfl rfl rfl (run_l tabOk ?_); conv => whnf) | (refine wl_cvw tabOk .u32 rfl rfl rfl rfl rfl rfl (run_l tabOk ?_); conv => whnf) | (refine wl_cvw tabOk .u64 rfl rfl rfl rfl rfl rfl (run_l tabOk ?_); conv => whnf) | (refine wl_rem rfl rfl rfl rfl rfl rfl (by omega) (by omega) (fun r hr hr0 hr1 hr2 => run_l tabOk ?_); conv => whnf) | (refine wl_quo rfl rfl rfl rfl rfl rfl (by omega) (by omega) (by simp only [inK]; omega) (run_l tabOk ?_); conv => whnf) | (refine wl_mul rfl rfl rfl rfl rfl rfl (by omega) (by omega) (run_l tabOk ?_); conv => whnf) | (refine gs_dt (by first | assumption | omega) ?_; conv => whnf) | (refine gs_df (by first | assumption | omega) ?_; conv => whnf) | (refine gs_t (by assumption) ?_; conv => whnf) | (refine gs_f (by assumption) ?_; conv => whnf) | (refine gs_d (fun hg => ?_) (fun hg => ?_) <;> conv => whnf) | (refine gs_n (fun hg => ?_) (fun hg => ?_) <;> conv => whnf) | (refine gs_nb (fun hg => ?_) (fun hg => ?_) <;> conv => whnf) | (refine gs_b (fun hg => ?_) (fun hg => ?_) <;> conv => whnf) | refine fin1 rfl rfl ?_))
      exact ⟨v + 1, ⟨rfl, rfl, rfl, trivial⟩, ⟨by omega, rfl⟩, by omega⟩
    · (repeat' (first | (refine wl_add rfl rfl rfl rfl rfl rfl (by omega) (by omega) (run_l tabOk ?_); conv => whnf) | (refine wl_sub rfl rfl rfl rfl rfl rfl (by omega) (by omega) (run_l tabOk ?_); conv => whnf) | (refine wl_cv tabOk .i64 rfl rfl rfl (by simp only [inK]; omega) rfl rfl rfl (run_l tabOk ?_); conv => whnf) | (refine wl_cv tabOk .u8 rfl rfl rfl (by simp only [inK]; omega) rfl rfl rfl (run_l tabOk ?_); conv => whnf) | (refine wl_cv tabOk .u16 rfl rfl rfl (by simp only [inK]; omega) rfl rfl rfl (run_l tabOk ?_); conv => whnf) | (refine wl_cv tabOk .i32 rfl rfl rfl (by simp only [inK]; omega) rfl rfl rfl (run_l tabOk ?_); conv => whnf) | (refine wl_cv tabOk .u32 rfl rfl rfl (by simp only [inK]; omega) rfl rfl rfl (run_l tabOk ?_); conv => whnf) | (refine wl_cv tabOk .u64 rfl rfl rfl (by simp only [inK]; omega) rfl rfl rfl (run_l tabOk ?_); conv => whnf) | (refine wl_cvw tabOk .i64 rfl rfl rfl rfl rfl rfl (run_l tabOk ?_); conv => whnf) | (refine wl_cvw tabOk .u8 rfl rfl rfl rfl rfl rfl (run_l tabOk ?_); conv => whnf) | (refine wl_cvw tabOk .u16 rfl rfl rfl rfl rfl rfl (run_l tabOk ?_); conv => whnf) | (refine wl_cvw tabOk .i32 rfl rfl rfl rfl rfl rfl (run_l tabOk ?_); conv => whnf) | (refine wl_cvw tabOk .u32 rfl rfl rfl rfl rfl rfl (run_l tabOk ?_); conv => whnf) | (refine wl_cvw tabOk .u64 rfl rfl rfl rfl rfl rfl (run_l tabOk ?_); conv => whnf) | (refine wl_rem rfl rfl rfl rfl rfl rfl (by omega) (by omega) (fun r hr hr0 hr1 hr2 => run_l tabOk ?_); conv => whnf) | (refine wl_quo rfl rfl rfl rfl rfl rfl (by omega) (by omega) (by simp only [inK]; omega) (run_l tabOk ?_); conv => whnf) | (refine wl_mul rfl rfl rfl rfl rfl rfl (by omega) (by omega) (run_l tabOk ?_); conv => whnf) | (refine gs_dt (by first | assumption | omega) ?_; conv => whnf) | (refine gs_df (by first | assumption | omega) ?_; conv => whnf) | (refine gs_t (by assumption) ?_; conv => whnf) | (refine gs_f (by assumption) ?_; conv => whnf) | (refine gs_d (fun hg => ?_) (fun hg => ?_) <;> conv => whnf) | (refine gs_n (fun hg => ?_) (fun hg => ?_) <;> conv => whnf) | (refine gs_nb (fun hg => ?_) (fun hg => ?_) <;> conv => whnf) | (refine gs_b (fun hg => ?_) (fun hg => ?_) <;> conv => whnf) | refine fin1 rfl rfl ?_))
      refine wc_qg [0, 1, 2, 3, 4, 5, 6, 7, 8] 12 21 (stable_Bw w7) tabOk mixed (by kernel_rfl) (Below.refl _ _) ?_
      conv => whnf
      (repeat' (first | (refine wq_Lg tabOk hb7 rfl rfl rfl rfl rfl rfl rfl (run_q tabOk ?_); conv => whnf) | (refine wq_Lag tabOk hb7 rfl rfl rfl rfl rfl rfl (run_q tabOk ?_); conv => whnf) | (refine wq_add rfl rfl rfl rfl rfl rfl (by omega) (by omega) (run_q tabOk ?_); conv => whnf) | (refine wq_sub rfl rfl rfl rfl rfl rfl (by omega) (by omega) (run_q tabOk ?_); conv => whnf) | (refine wq_cv tabOk .i64 rfl rfl rfl (by simp only [inK]; omega) rfl rfl rfl (run_q tabOk ?_); conv => whnf) | (refine wq_cv tabOk .u8 rfl rfl rfl (by simp only [inK]; omega) rfl rfl rfl (run_q tabOk ?_); conv => whnf) | (refine wq_cv tabOk .u16 rfl rfl rfl (by simp only [inK]; omega) rfl rfl rfl (run_q tabOk ?_); conv => whnf) | (refine wq_cv tabOk .i32 rfl rfl rfl (by simp only [inK]; omega) rfl rfl rfl (run_q tabOk ?_); conv => whnf) | (refine wq_cv tabOk .u32 rfl rfl rfl (by simp only [inK]; omega) rfl rfl rfl (run_q tabOk ?_); conv => whnf) | (refine wq_cv tabOk .u64 rfl rfl rfl (by simp only [inK]; omega) rfl rfl rfl (run_q tabOk ?_); conv => whnf) | (refine wq_cvw tabOk .i64 rfl rfl rfl rfl rfl rfl (run_q tabOk ?_); conv => whnf) | (refine wq_cvw tabOk .u8 rfl rfl rfl rfl rfl rfl (run_q tabOk ?_); conv => whnf) | (refine wq_cvw tabOk .u16 rfl rfl rfl rfl rfl rfl (run_q tabOk ?_); conv => whnf) | (refine wq_cvw tabOk .i32 rfl rfl rfl rfl rfl rfl (run_q tabOk ?_); conv => whnf) | (refine wq_cvw tabOk .u32 rfl rfl rfl rfl rfl rfl (run_q tabOk ?_); conv => whnf) | (refine wq_cvw tabOk .u64 rfl rfl rfl rfl rfl rfl (run_q tabOk ?_); conv => whnf) | (refine wq_rem rfl rfl rfl rfl rfl rfl (by omega) (by omega) (fun r hr hr0 hr1 hr2 => run_q tabOk ?_); conv => whnf) | (refine wq_quo rfl rfl rfl rfl rfl rfl (by omega) (by omega) (by simp only [inK]; omega) (run_q tabOk ?_); conv => whnf) | (refine wq_mul rfl rfl rfl rfl rfl rfl (by omega) (by omega) (run_q tabOk ?_); conv => whnf) | (refine gs_dt (by first | assumption | omega) ?_; conv => whnf) | (refine gs_df (by first | assumption | omega) ?_; conv => whnf) | (refine gs_t (by assumption) ?_; conv => whnf) | (refine gs_f (by assumption) ?_; conv => whnf) | (refine gs_d (fun hg => ?_) (fun hg => ?_) <;> conv => whnf) | (refine gs_n (fun hg => ?_) (fun hg => ?_) <;> conv => whnf) | (refine gs_nb (fun hg => ?_) (fun hg => ?_) <;> conv => whnf) | (refine gs_b (fun hg => ?_) (fun hg => ?_) <;> conv => whnf)))
      intro W hC hbu
      clear hbu
      conv => whnf
      repeat' (first | exact True.intro | (refine And.intro ?_ ?_ <;> (conv => whnf)) | (refine gs_dt (by first | assumption | omega) ?_; (conv => whnf)) | (refine gs_t rfl ?_; (conv => whnf)) | (refine wb_P tabOk rfl rfl rfl ?_; refine ⟨hC, fun W hW hC => ?_⟩; (try (have f9 := blk_up (hW) f9)); (try (have f17 := blk_up (hW) f17)); clear hW; (conv => whnf)) | (refine wb_Lg tabOk (blk_up hC hb7) rfl rfl rfl rfl rfl rfl ?_; refine ⟨hC, fun W hW hC => ?_⟩; (try (have f9 := blk_up (hW) f9)); (try (have f17 := blk_up (hW) f17)); clear hW; (conv => whnf)) | (refine wb_Lag tabOk (blk_up hC hb7) rfl rfl rfl rfl rfl ?_; refine ⟨hC, fun W hW hC => ?_⟩; (try (have f9 := blk_up (hW) f9)); (try (have f17 := blk_up (hW) f17)); clear hW; (conv => whnf)) | (refine wb_add rfl rfl rfl rfl rfl (by omega) (by omega) ?_; refine ⟨hC, fun W hW hC => ?_⟩; (try (have f9 := blk_up (hW) f9)); (try (have f17 := blk_up (hW) f17)); clear hW; (conv => whnf)) | (refine wb_mk (m := n) tabOk 33 1 24 rfl rfl rfl rfl rfl rfl rfl rfl (by omega) (by omega) ?_; intro g9 v9 n9; have f9 := n9.blk; refine ⟨bup hC n9.below, fun W hW hC => ?_⟩; have f9 := blk_up hW f9; clear hW n9; (conv => whnf)) | (refine wb_mk (m := n + 1) tabOk 33 1 24 rfl rfl rfl rfl rfl rfl rfl rfl (by omega) (by omega) ?_; intro g17 v17 n17; have f17 := n17.blk; refine ⟨bup hC n17.below, fun W hW hC => ?_⟩; have f17 := blk_up hW f17; (try (have f9 := blk_up (bup n17.below hW) f9)); clear hW n17; (conv => whnf)) | (refine wb_C fn34 (leastClosed ⟨n, xs, zs⟩ (List.replicate n []) A1 D (some ⟨g9, 0, none⟩) c1 dc n W (hr1.up stays_Cell hC) (hrt.up stays_Con hC) (rows_of_empty f9 (by omega))) rfl rfl rfl (by simp only [List.length_replicate]; rfl) rfl rfl ?_; rintro _ u9 ⟨b9, rfl, hb9, hU9⟩; have e9 : b9 = true := hk9 _ hb9; subst e9; refine ⟨_, rfl, bup hC hU9, fun W hW hC => ?_⟩; clear hW hU9 hb9; (conv => whnf)) | (refine wb_C fn34 (leastClosed ⟨n, xs, zs⟩ (List.replicate (n + 1) []) A1 D (some ⟨g17, 0, none⟩) c1 dc (n + 1) W (hr1.up stays_Cell hC) (hrt.up stays_Con hC) (rows_of_empty f17 (by omega))) rfl rfl rfl (by simp only [List.length_replicate]; rfl) rfl rfl ?_; rintro _ u17 ⟨b17, rfl, hb17, hU17⟩; have e17 : b17 = false := hk17 _ hb17; subst e17; refine ⟨_, rfl, bup hC hU17, fun W hW hC => ?_⟩; clear hW hU17 hb17; (conv => whnf)))
      all_goals (refine fin1 rfl rfl ?_; exact ⟨rfl, bup hBw hC⟩)
end Go.Proofs.Ytmlepfngcpekiaa
