/- The walk of HuRow. -/
import Derived.Test.YtjggjhgbobmkhaaXPR18
import Derived.Test.YtjggjhgbobmkhaaY5
namespace Go.Proofs.Ytjggjhgbobmkhaa
open Go.RowKit
set_option linter.unusedVariables false
set_option linter.unusedSimpArgs false
set_option maxRecDepth 100000
theorem own_typ {w : World} {base sz n : Nat} {e : TypeId} {v : Value} {flat : List Value} (h : w.ownsRow base e sz v n flat) {b : Nat} (hb : v.ownBlock = some b) : ∃ cur, w.heap[b]? = some (.cells cur e (0, 0)) := by
  rcases h.2 with ⟨q3, _⟩ | ⟨g', cap, cur, q3, _, q4, _⟩
  · rw [q3] at hb
    cases hb
  · rw [q3] at hb
    have hb : g' = b := by simpa [Value.ownBlock] using hb
    subst hb
    exact ⟨_, q4⟩
theorem own_apart {w : World} {b1 b2 s1 s2 n1 n2 : Nat} {e1 e2 : TypeId} {v1 v2 : Value} {f1 f2 : List Value} (h : w.ownsRow b1 e1 s1 v1 n1 f1) (k : w.ownsRow b2 e2 s2 v2 n2 f2) (he : e1 ≠ e2) {b : Nat} (hb : v1.ownBlock = some b) : some b ≠ v2.ownBlock := fun hb2 => by
  obtain ⟨c1, h1⟩ := own_typ h hb
  obtain ⟨c2, h2⟩ := own_typ k hb2.symm
  rw [h1] at h2
  simp only [Option.some.injEq, Obj.cells.injEq] at h2
  exact he h2.2.1
theorem LRow.kept' {α : Type} [Inhabited α] {sz : Nat} {d : Dec α} {e : TypeId} {base : Nat} {w0 w w1 : World} {v : Value} {xs : List α} (h : LRow sz d e base w0 w v xs) {row : Option Nat} (hg : w.grownBy w1 row) (hne : ∀ b, v.ownBlock = some b → some b ≠ row) : LRow sz d e base w0 w1 v xs := by
  obtain ⟨flat, o1, o2⟩ := h.own
  refine ⟨flat, ?_, o2⟩
  cases hv : v.ownBlock with
  | none => exact o1.kept hg (.inl hv)
  | some b => exact o1.kept hg (.inr fun e => hne b hv (by rw [← hv, e]))
/-- What HuRow makes. -/
structure HR (base : Nat) (w0 w : World) (g3 n : Nat) (D1 : Option Addr) (c1 : Nat) (D2 : Option Addr) (c2 : Nat) (xs : List Cell) (ys : List Con) (l1 l2 : Nat) : Prop where
  below : Below w0.heap.size w0 w
  size : base ≤ w.heap.size
  box : w.heap[g3]? = some (.cells #[.int .i64 (n : Int), .slice D1 l1 c1, .slice D2 l2 c2] 29 (0, 0))
  cells : LRow 3 dCell 44 base w0 w (.slice D1 l1 c1) xs
  cons : LRow 4 dCon 46 base w0 w (.slice D2 l2 c2) ys
  len1 : xs.length = l1
  len2 : ys.length = l2
section
variable {base g3 n c1 c2 l1 l2 : Nat} {w0 w w1 w2 : World} {D1 D2 : Option Addr} {xs : List Cell} {ys : List Con}
theorem HR.addCell (h : HR base w0 w g3 n D1 c1 D2 c2 xs ys l1 l2) (hw0 : w0.heap.size ≤ base) (hg : g3 < base) (hg0 : w0.heap.size ≤ g3) {x : Cell} {cs : List Value} (hcs : cs.length = 3) (hd : ∀ w', dCell w' cs x) {flat : List Value} (hel : ∀ w', Below w0.heap.size w0 w' → Elems 3 dCell w' flat xs) {E : Option Addr} {ec : Nat} (ho : w1.ownsRow base 44 3 (.slice E (l1 + 1) ec) (l1 + 1) (flat ++ cs)) (hgr : w.grownBy w1 (Value.slice D1 l1 c1).ownBlock)
    (hp : Put w1 w2 g3 [.int .i64 (n : Int), .slice E (l1 + 1) ec, .slice D2 l2 c2] 29) : HR base w0 w2 g3 n E ec D2 c2 (xs ++ [x]) ys (l1 + 1) l2 := by
  obtain ⟨f1, o1, _⟩ := h.cells.own
  obtain ⟨f2, o2, _⟩ := h.cons.own
  have hb1 : Below w0.heap.size w0 w1 := h.below.grown hgr h.below.size fun k hk => by have := (o1.lt k hk).1; omega
  have hl : (xs ++ [x]).length = l1 + 1 := by rw [List.length_append, h.len1]; rfl
  have hc1 : LRow 3 dCell 44 base w0 w1 (.slice E (l1 + 1) ec) (xs ++ [x]) := ⟨_, by rw [hl]; exact ho, fun w' hw' => (hel w' hw').push hcs (hd w')⟩
  have hc2 : LRow 4 dCon 46 base w0 w1 (.slice D2 l2 c2) ys := h.cons.kept' hgr fun b hb => own_apart o2 o1 (by decide) hb
  refine ⟨hp.below hb1 hg0 hb1.size, by rw [hp.size]; have := hgr.size; have := h.size; omega, hp.blk, hc1.kept' hp.grown fun b hb e => ?_, hc2.kept' hp.grown fun b hb e => ?_, hl, h.len2⟩
  · injection e with e
    have := (ho.lt b hb).1
    omega
  · injection e with e
    obtain ⟨f3, o3, _⟩ := hc2.own
    have := (o3.lt b hb).1
    omega
theorem HR.addCon (h : HR base w0 w g3 n D1 c1 D2 c2 xs ys l1 l2) (hw0 : w0.heap.size ≤ base) (hg : g3 < base) (hg0 : w0.heap.size ≤ g3) {x : Con} {cs : List Value} (hcs : cs.length = 4) (hd : ∀ w', dCon w' cs x) {flat : List Value} (hel : ∀ w', Below w0.heap.size w0 w' → Elems 4 dCon w' flat ys) {E : Option Addr} {ec : Nat} (ho : w1.ownsRow base 46 4 (.slice E (l2 + 1) ec) (l2 + 1) (flat ++ cs)) (hgr : w.grownBy w1 (Value.slice D2 l2 c2).ownBlock)
    (hp : Put w1 w2 g3 [.int .i64 (n : Int), .slice D1 l1 c1, .slice E (l2 + 1) ec] 29) : HR base w0 w2 g3 n D1 c1 E ec xs (ys ++ [x]) l1 (l2 + 1) := by
  obtain ⟨f1, o1, _⟩ := h.cells.own
  obtain ⟨f2, o2, _⟩ := h.cons.own
  have hb1 : Below w0.heap.size w0 w1 := h.below.grown hgr h.below.size fun k hk => by have := (o2.lt k hk).1; omega
  have hl : (ys ++ [x]).length = l2 + 1 := by rw [List.length_append, h.len2]; rfl
  have hc1 : LRow 4 dCon 46 base w0 w1 (.slice E (l2 + 1) ec) (ys ++ [x]) := ⟨_, by rw [hl]; exact ho, fun w' hw' => (hel w' hw').push hcs (hd w')⟩
  have hc2 : LRow 3 dCell 44 base w0 w1 (.slice D1 l1 c1) xs := h.cells.kept' hgr fun b hb => own_apart o1 o2 (by decide) hb
  refine ⟨hp.below hb1 hg0 hb1.size, by rw [hp.size]; have := hgr.size; have := h.size; omega, hp.blk, hc2.kept' hp.grown fun b hb e => ?_, hc1.kept' hp.grown fun b hb e => ?_, h.len1, hl⟩
  · injection e with e
    obtain ⟨f3, o3, _⟩ := hc2.own
    have := (o3.lt b hb).1
    omega
  · injection e with e
    have := (ho.lt b hb).1
    omega
theorem HR.up (h : HR base w0 w g3 n D1 c1 D2 c2 xs ys l1 l2) (hb : Below w.heap.size w w1) : HR base w0 w1 g3 n D1 c1 D2 c2 xs ys l1 l2 :=
  ⟨bup h.below hb, by have := h.size; have := hb.size; omega, blk_up hb h.box, h.cells.up hb, h.cons.up hb, h.len1, h.len2⟩
end
set_option maxHeartbeats 16000000 in
theorem lawHuRow (n objects : Int) (w : World) (hn : 0 ≤ n ∧ n ≤ 255) (hob : 0 ≤ objects ∧ objects ≤ 255) :
    Calls Try.prog 4 #[.int .u8 n, .int .u8 objects] w fun e w' => e = .returned (.bool true) ∧ Below w.heap.size w w' := by
  refine enterR (args := [.int .u8 n, .int .u8 objects]) tabOk Try.func4 rfl Try.ntmps4 rfl ?_; conv => whnf
  refine wl_C fn14 (awake18 w) rfl rfl rfl rfl rfl rfl rfl ?_
  rintro _ w1 ⟨rfl, hB1⟩
  refine ⟨_, rfl, run_l tabOk ?_⟩
  conv => whnf
  refine wl_rem rfl rfl rfl rfl rfl rfl (by omega) (by omega) (fun a ha ha0 ha1 ha2 => ?_)
  obtain ⟨m, hm⟩ := Int.eq_ofNat_of_zero_le ha0
  rw [hm]
  refine run_l tabOk ?_
  conv => whnf
  (repeat' (first | (refine wl_add rfl rfl rfl rfl rfl rfl (by omega) (by omega) (run_l tabOk ?_); conv => whnf) | (refine wl_sub rfl rfl rfl rfl rfl rfl (by omega) (by omega) (run_l tabOk ?_); conv => whnf) | (refine wl_cvA tabOk rfl rfl rfl (by simp only [inK]; omega) rfl rfl rfl (run_l tabOk ?_); conv => whnf) | (refine wl_cvB tabOk rfl rfl rfl rfl rfl rfl (run_l tabOk ?_); conv => whnf) | (refine wl_rem rfl rfl rfl rfl rfl rfl (by omega) (by omega) (fun r hr hr0 hr1 hr2 => run_l tabOk ?_); conv => whnf) | (refine wl_quo rfl rfl rfl rfl rfl rfl (by omega) (by omega) (by simp only [inK]; omega) (run_l tabOk ?_); conv => whnf) | (refine wl_mul rfl rfl rfl rfl rfl rfl (by omega) (by omega) (run_l tabOk ?_); conv => whnf) | (refine gs_dt (by first | assumption | omega) ?_; conv => whnf) | (refine gs_df (by first | assumption | omega) ?_; conv => whnf) | (refine gs_t (by assumption) ?_; conv => whnf) | (refine gs_f (by assumption) ?_; conv => whnf) | (refine gs_d (fun hg => ?_) (fun hg => ?_) <;> conv => whnf) | (refine gs_n (fun hg => ?_) (fun hg => ?_) <;> conv => whnf) | (refine gs_nb (fun hg => ?_) (fun hg => ?_) <;> conv => whnf) | (refine gs_b (fun hg => ?_) (fun hg => ?_) <;> conv => whnf) | refine fin1 rfl rfl ?_))
  obtain ⟨q, hq⟩ := Int.eq_ofNat_of_zero_le hr0
  obtain ⟨k, hk⟩ : ∃ k, k = m + 2 := ⟨_, rfl⟩
  obtain ⟨o, ho⟩ : ∃ o, o = q + 1 := ⟨_, rfl⟩
  have ek : (2 : Int) + (m : Int) = (k : Int) := by omega
  have eo : (1 : Int) + r = (o : Int) := by omega
  have eko : (k : Int) + (o : Int) = ((k + o : Nat) : Int) := by omega
  rw [ek, eo, eko]
  have hk61 : k ≤ 61 := by omega
  have hk2' : 2 ≤ k := by omega
  have ho7 : o ≤ 7 := by omega
  have ho1 : 1 ≤ o := by omega
  clear ek eo hk ho hq hr hr0 hr1 hr2 ha ha0 ha1 ha2 hm
  refine wl_alloc tabOk rfl rfl rfl rfl rfl rfl ?_
  intro g3 w4 hn4
  refine run_l tabOk ?_
  conv => whnf
  refine wl_Sa tabOk hn4.blk rfl rfl rfl rfl rfl (by simp [Value.oneCell']) rfl rfl ?_
  intro w5 hp5
  refine run_l tabOk ?_
  conv => whnf
  have hB5 : Below w.heap.size w w5 := hp5.below (bup hB1 hn4.below) (by have := hn4.at_; have := hB1.size; omega) (by have := hn4.size; have := hB1.size; omega)
  have hb3 : w5.heap[g3]? = some (.cells #[.int .i64 ((k + o : Nat) : Int), .slice none 0 0, .slice none 0 0] 29 (0, 0)) := hp5.blk
  have hg3w : w.heap.size ≤ g3 := by have := hn4.at_; have := hB1.size; omega
  have hg3 := blk_lt hb3
  have hH : HR w5.heap.size w w5 g3 (k + o) none 0 none 0 (hrCells k 0) (hrBase 0) 0 0 := ⟨hB5, Nat.le_refl _, hb3, LRow.nil .., LRow.nil .., rfl, rfl⟩
  have hbase := hB5.size
  clear hn4 hp5 hB1 hb3 hB5
  (repeat' (first | (refine wl_add rfl rfl rfl rfl rfl rfl (by omega) (by omega) (run_l tabOk ?_); conv => whnf) | (refine wl_sub rfl rfl rfl rfl rfl rfl (by omega) (by omega) (run_l tabOk ?_); conv => whnf) | (refine wl_cvA tabOk rfl rfl rfl (by simp only [inK]; omega) rfl rfl rfl (run_l tabOk ?_); conv => whnf) | (refine wl_cvB tabOk rfl rfl rfl rfl rfl rfl (run_l tabOk ?_); conv => whnf) | (refine wl_rem rfl rfl rfl rfl rfl rfl (by omega) (by omega) (fun r hr hr0 hr1 hr2 => run_l tabOk ?_); conv => whnf) | (refine wl_quo rfl rfl rfl rfl rfl rfl (by omega) (by omega) (by simp only [inK]; omega) (run_l tabOk ?_); conv => whnf) | (refine wl_mul rfl rfl rfl rfl rfl rfl (by omega) (by omega) (run_l tabOk ?_); conv => whnf) | (refine gs_dt (by first | assumption | omega) ?_; conv => whnf) | (refine gs_df (by first | assumption | omega) ?_; conv => whnf) | (refine gs_t (by assumption) ?_; conv => whnf) | (refine gs_f (by assumption) ?_; conv => whnf) | (refine gs_d (fun hg => ?_) (fun hg => ?_) <;> conv => whnf) | (refine gs_n (fun hg => ?_) (fun hg => ?_) <;> conv => whnf) | (refine gs_nb (fun hg => ?_) (fun hg => ?_) <;> conv => whnf) | (refine gs_b (fun hg => ?_) (fun hg => ?_) <;> conv => whnf) | refine fin1 rfl rfl ?_))
  refine wc_ends 0 (fun _ _ => False) (X := (Option Addr × Nat) × Option Addr × Nat) (fun _ => [(5, .int .i64 (k : Int)), (6, .int .i64 (o : Int)), (7, .pointer (some ⟨g3, 0, none⟩))]) (fun x wr => HR w5.heap.size w wr g3 (k + o) x.1.1 x.1.2 x.2.1 x.2.2 (hrCells k o) (hrBase o) o o) ?_ (fun _ _ h => h.elim) ?_
  · refine lp_loop tabOk (X := Nat × (Option Addr × Nat) × Option Addr × Nat) (fun x => [(5, .int .i64 (k : Int)), (6, .int .i64 (o : Int)), (7, .pointer (some ⟨g3, 0, none⟩)), (8, .int .i64 (x.1 : Int))]) (fun x wr => x.1 ≤ o ∧ HR w5.heap.size w wr g3 (k + o) x.2.1.1 x.2.1.2 x.2.2.1 x.2.2.2 (hrCells k x.1) (hrBase x.1) x.1 x.1) (fun x => o - x.1) (0, (none, 0), none, 0) ⟨rfl, rfl, rfl, rfl, trivial⟩ ⟨by simp, hH⟩ ?_
    clear hH
    rintro ⟨i, ⟨D1, c1⟩, D2, c2⟩ G wr ⟨hi, hH⟩
    simp only at hi hH
    by_cases hio : i < o
    · have hb3 := hH.box
      obtain ⟨f1, o1, e1⟩ := hH.cells.own
      rw [hH.len1] at o1
      have hsz := hH.size
      conv => whnf
      (repeat' (first | (refine wl_Lg tabOk hb3 rfl rfl rfl rfl rfl rfl rfl (run_l tabOk ?_); conv => whnf) | (refine wl_add rfl rfl rfl rfl rfl rfl (by omega) (by omega) (run_l tabOk ?_); conv => whnf) | (refine wl_sub rfl rfl rfl rfl rfl rfl (by omega) (by omega) (run_l tabOk ?_); conv => whnf) | (refine wl_cvA tabOk rfl rfl rfl (by simp only [inK]; omega) rfl rfl rfl (run_l tabOk ?_); conv => whnf) | (refine wl_cvB tabOk rfl rfl rfl rfl rfl rfl (run_l tabOk ?_); conv => whnf) | (refine wl_rem rfl rfl rfl rfl rfl rfl (by omega) (by omega) (fun r hr hr0 hr1 hr2 => run_l tabOk ?_); conv => whnf) | (refine wl_quo rfl rfl rfl rfl rfl rfl (by omega) (by omega) (by simp only [inK]; omega) (run_l tabOk ?_); conv => whnf) | (refine wl_mul rfl rfl rfl rfl rfl rfl (by omega) (by omega) (run_l tabOk ?_); conv => whnf) | (refine gs_dt (by first | assumption | omega) ?_; conv => whnf) | (refine gs_df (by first | assumption | omega) ?_; conv => whnf) | (refine gs_t (by assumption) ?_; conv => whnf) | (refine gs_f (by assumption) ?_; conv => whnf) | (refine gs_d (fun hg => ?_) (fun hg => ?_) <;> conv => whnf) | (refine gs_n (fun hg => ?_) (fun hg => ?_) <;> conv => whnf) | (refine gs_nb (fun hg => ?_) (fun hg => ?_) <;> conv => whnf) | (refine gs_b (fun hg => ?_) (fun hg => ?_) <;> conv => whnf) | refine fin1 rfl rfl ?_))
      refine wl_bs tabOk 44 3 rfl rfl rfl rfl rfl rfl rfl rfl rfl rfl ?_
      intro gn w6 hn6
      refine run_l tabOk ?_
      conv => whnf
      have hH6 := hH.up hn6.below
      have hb36 := hH6.box
      refine wl_ap tabOk 44 3 40 (o1.kept (grown_of hn6.below) (Classical.em _)) hn6.blk rfl rfl rfl rfl rfl rfl rfl rfl rfl rfl rfl rfl (by simp [Value.oneCell']) (by omega) (by omega) (by have := hn6.size; omega) ?_
      intro E ec w7 hown7 hg7 hob7
      refine run_l tabOk ?_
      conv => whnf
      have hb37 : w7.heap[g3]? = _ := (hg7.block g3 (blk_lt hb36) (fun e => by have := (o1.lt g3 e.symm).1; omega)).trans hb36
      refine wl_S (off := 1) (v := .slice E (i + 1) ec) tabOk hb37 rfl rfl rfl rfl rfl rfl (by simp) rfl rfl ?_
      intro w8 hp8
      refine run_l tabOk ?_
      conv => whnf
      have hH8 := hH6.addCell hbase hg3 hg3w (cs := [.bool false, .int .i64 ((k : Int) + (i : Int)), .slice none 0 0]) rfl (fun w' => dCell_nil w' false ((k : Int) + (i : Int)) (by show (-9223372036854775808 : Int) ≤ _; omega) (by show _ ≤ (9223372036854775807 : Int); omega)) e1 hown7 hg7 hp8
      have hb38 := hH8.box
      obtain ⟨f2, o2, e2⟩ := hH8.cons.own
      rw [hH8.len2] at o2
      have hsz8 := hH8.size
      clear hH6 hb36 hb37 hp8 hg7 hob7 hown7 o1 e1 hn6 hH hb3
      (repeat' (first | (refine wl_Lg tabOk hb38 rfl rfl rfl rfl rfl rfl rfl (run_l tabOk ?_); conv => whnf) | (refine wl_add rfl rfl rfl rfl rfl rfl (by omega) (by omega) (run_l tabOk ?_); conv => whnf) | (refine wl_sub rfl rfl rfl rfl rfl rfl (by omega) (by omega) (run_l tabOk ?_); conv => whnf) | (refine wl_cvA tabOk rfl rfl rfl (by simp only [inK]; omega) rfl rfl rfl (run_l tabOk ?_); conv => whnf) | (refine wl_cvB tabOk rfl rfl rfl rfl rfl rfl (run_l tabOk ?_); conv => whnf) | (refine wl_rem rfl rfl rfl rfl rfl rfl (by omega) (by omega) (fun r hr hr0 hr1 hr2 => run_l tabOk ?_); conv => whnf) | (refine wl_quo rfl rfl rfl rfl rfl rfl (by omega) (by omega) (by simp only [inK]; omega) (run_l tabOk ?_); conv => whnf) | (refine wl_mul rfl rfl rfl rfl rfl rfl (by omega) (by omega) (run_l tabOk ?_); conv => whnf) | (refine gs_dt (by first | assumption | omega) ?_; conv => whnf) | (refine gs_df (by first | assumption | omega) ?_; conv => whnf) | (refine gs_t (by assumption) ?_; conv => whnf) | (refine gs_f (by assumption) ?_; conv => whnf) | (refine gs_d (fun hg => ?_) (fun hg => ?_) <;> conv => whnf) | (refine gs_n (fun hg => ?_) (fun hg => ?_) <;> conv => whnf) | (refine gs_nb (fun hg => ?_) (fun hg => ?_) <;> conv => whnf) | (refine gs_b (fun hg => ?_) (fun hg => ?_) <;> conv => whnf) | refine fin1 rfl rfl ?_))
      refine wl_bs tabOk 46 4 rfl rfl rfl rfl rfl rfl rfl rfl rfl rfl ?_
      intro gm w9 hn9
      refine run_l tabOk ?_
      conv => whnf
      have hH9 := hH8.up hn9.below
      have hb39 := hH9.box
      refine wl_ap tabOk 46 4 48 (o2.kept (grown_of hn9.below) (Classical.em _)) hn9.blk rfl rfl rfl rfl rfl rfl rfl rfl rfl rfl rfl rfl (by simp [Value.oneCell']) (by omega) (by omega) (by have := hn9.size; omega) ?_
      intro E2 ec2 w10 hown10 hg10 hob10
      refine run_l tabOk ?_
      conv => whnf
      have hb310 : w10.heap[g3]? = _ := (hg10.block g3 (blk_lt hb39) (fun e => by have := (o2.lt g3 e.symm).1; omega)).trans hb39
      refine wl_S (off := 2) (v := .slice E2 (i + 1) ec2) tabOk hb310 rfl rfl rfl rfl rfl rfl (by simp) rfl rfl ?_
      intro w11 hp11
      refine run_l tabOk ?_
      conv => whnf
      have hH11 := hH9.addCon hbase hg3 hg3w (cs := [.int .u8 1, .int .i64 0, .int .i64 (i : Int), .slice none 0 0]) rfl (fun w' => dCon_nil w' 1 0 (i : Int) (by decide) (by decide) (by omega)) e2 hown10 hg10 hp11
      rw [← hrCells_next, ← hrBase_next] at hH11
      (repeat' (first | (refine wl_add rfl rfl rfl rfl rfl rfl (by omega) (by omega) (run_l tabOk ?_); conv => whnf) | (refine wl_sub rfl rfl rfl rfl rfl rfl (by omega) (by omega) (run_l tabOk ?_); conv => whnf) | (refine wl_cvA tabOk rfl rfl rfl (by simp only [inK]; omega) rfl rfl rfl (run_l tabOk ?_); conv => whnf) | (refine wl_cvB tabOk rfl rfl rfl rfl rfl rfl (run_l tabOk ?_); conv => whnf) | (refine wl_rem rfl rfl rfl rfl rfl rfl (by omega) (by omega) (fun r hr hr0 hr1 hr2 => run_l tabOk ?_); conv => whnf) | (refine wl_quo rfl rfl rfl rfl rfl rfl (by omega) (by omega) (by simp only [inK]; omega) (run_l tabOk ?_); conv => whnf) | (refine wl_mul rfl rfl rfl rfl rfl rfl (by omega) (by omega) (run_l tabOk ?_); conv => whnf) | (refine gs_dt (by first | assumption | omega) ?_; conv => whnf) | (refine gs_df (by first | assumption | omega) ?_; conv => whnf) | (refine gs_t (by assumption) ?_; conv => whnf) | (refine gs_f (by assumption) ?_; conv => whnf) | (refine gs_d (fun hg => ?_) (fun hg => ?_) <;> conv => whnf) | (refine gs_n (fun hg => ?_) (fun hg => ?_) <;> conv => whnf) | (refine gs_nb (fun hg => ?_) (fun hg => ?_) <;> conv => whnf) | (refine gs_b (fun hg => ?_) (fun hg => ?_) <;> conv => whnf) | refine fin1 rfl rfl ?_))
      exact ⟨(i + 1, (E, ec), E2, ec2), ⟨rfl, rfl, rfl, rfl, trivial⟩, ⟨by simp only; omega, hH11⟩, by simp only; omega⟩
    · have hio2 : i = o := by omega
      rw [hio2] at hH
      conv => whnf
      (repeat' (first | (refine wl_add rfl rfl rfl rfl rfl rfl (by omega) (by omega) (run_l tabOk ?_); conv => whnf) | (refine wl_sub rfl rfl rfl rfl rfl rfl (by omega) (by omega) (run_l tabOk ?_); conv => whnf) | (refine wl_cvA tabOk rfl rfl rfl (by simp only [inK]; omega) rfl rfl rfl (run_l tabOk ?_); conv => whnf) | (refine wl_cvB tabOk rfl rfl rfl rfl rfl rfl (run_l tabOk ?_); conv => whnf) | (refine wl_rem rfl rfl rfl rfl rfl rfl (by omega) (by omega) (fun r hr hr0 hr1 hr2 => run_l tabOk ?_); conv => whnf) | (refine wl_quo rfl rfl rfl rfl rfl rfl (by omega) (by omega) (by simp only [inK]; omega) (run_l tabOk ?_); conv => whnf) | (refine wl_mul rfl rfl rfl rfl rfl rfl (by omega) (by omega) (run_l tabOk ?_); conv => whnf) | (refine gs_dt (by first | assumption | omega) ?_; conv => whnf) | (refine gs_df (by first | assumption | omega) ?_; conv => whnf) | (refine gs_t (by assumption) ?_; conv => whnf) | (refine gs_f (by assumption) ?_; conv => whnf) | (refine gs_d (fun hg => ?_) (fun hg => ?_) <;> conv => whnf) | (refine gs_n (fun hg => ?_) (fun hg => ?_) <;> conv => whnf) | (refine gs_nb (fun hg => ?_) (fun hg => ?_) <;> conv => whnf) | (refine gs_b (fun hg => ?_) (fun hg => ?_) <;> conv => whnf) | refine fin1 rfl rfl ?_))
      exact ⟨rfl, ((D1, c1), D2, c2), ⟨rfl, rfl, rfl, trivial⟩, hH⟩
  · clear hH
    rintro ⟨⟨D1, c1⟩, D2, c2⟩ G wr hH
    simp only at hH
    conv => whnf
    (repeat' (first | (refine wl_add rfl rfl rfl rfl rfl rfl (by omega) (by omega) (run_l tabOk ?_); conv => whnf) | (refine wl_sub rfl rfl rfl rfl rfl rfl (by omega) (by omega) (run_l tabOk ?_); conv => whnf) | (refine wl_cvA tabOk rfl rfl rfl (by simp only [inK]; omega) rfl rfl rfl (run_l tabOk ?_); conv => whnf) | (refine wl_cvB tabOk rfl rfl rfl rfl rfl rfl (run_l tabOk ?_); conv => whnf) | (refine wl_rem rfl rfl rfl rfl rfl rfl (by omega) (by omega) (fun r hr hr0 hr1 hr2 => run_l tabOk ?_); conv => whnf) | (refine wl_quo rfl rfl rfl rfl rfl rfl (by omega) (by omega) (by simp only [inK]; omega) (run_l tabOk ?_); conv => whnf) | (refine wl_mul rfl rfl rfl rfl rfl rfl (by omega) (by omega) (run_l tabOk ?_); conv => whnf) | (refine gs_dt (by first | assumption | omega) ?_; conv => whnf) | (refine gs_df (by first | assumption | omega) ?_; conv => whnf) | (refine gs_t (by assumption) ?_; conv => whnf) | (refine gs_f (by assumption) ?_; conv => whnf) | (refine gs_d (fun hg => ?_) (fun hg => ?_) <;> conv => whnf) | (refine gs_n (fun hg => ?_) (fun hg => ?_) <;> conv => whnf) | (refine gs_nb (fun hg => ?_) (fun hg => ?_) <;> conv => whnf) | (refine gs_b (fun hg => ?_) (fun hg => ?_) <;> conv => whnf) | refine fin1 rfl rfl ?_))
    refine wc_ends 2 (fun _ _ => False) (X := Option Addr × Nat) (fun _ => [(5, .int .i64 (k : Int)), (6, .int .i64 (o : Int)), (7, .pointer (some ⟨g3, 0, none⟩))]) (fun x wr => HR w5.heap.size w wr g3 (k + o) D1 c1 x.1 x.2 (hrCells k o) (hrCons o (k - 1)) o (o + (k - 1))) ?_ (fun _ _ h => h.elim) ?_
    · refine lp_loop tabOk (X := Nat × Option Addr × Nat) (fun x => [(5, .int .i64 (k : Int)), (6, .int .i64 (o : Int)), (7, .pointer (some ⟨g3, 0, none⟩)), (9, .int .i64 (x.1 : Int))]) (fun x wr => (1 ≤ x.1 ∧ x.1 ≤ k) ∧ HR w5.heap.size w wr g3 (k + o) D1 c1 x.2.1 x.2.2 (hrCells k o) (hrCons o (x.1 - 1)) o (o + (x.1 - 1))) (fun x => k - x.1) (1, D2, c2) ⟨rfl, rfl, rfl, rfl, trivial⟩ ⟨⟨by simp, by simp only; omega⟩, by simpa [hrCons] using hH⟩ ?_
      clear hH
      rintro ⟨v, D2, c2⟩ G wr ⟨⟨hv1, hvk⟩, hH⟩
      simp only at hv1 hvk hH
      by_cases hlt : v < k
      · have hb3 := hH.box
        obtain ⟨f2, o2, e2⟩ := hH.cons.own
        rw [hH.len2] at o2
        have hsz := hH.size
        conv => whnf
        (repeat' (first | (refine wl_Lg tabOk hb3 rfl rfl rfl rfl rfl rfl rfl (run_l tabOk ?_); conv => whnf) | (refine wl_add rfl rfl rfl rfl rfl rfl (by omega) (by omega) (run_l tabOk ?_); conv => whnf) | (refine wl_sub rfl rfl rfl rfl rfl rfl (by omega) (by omega) (run_l tabOk ?_); conv => whnf) | (refine wl_cvA tabOk rfl rfl rfl (by simp only [inK]; omega) rfl rfl rfl (run_l tabOk ?_); conv => whnf) | (refine wl_cvB tabOk rfl rfl rfl rfl rfl rfl (run_l tabOk ?_); conv => whnf) | (refine wl_rem rfl rfl rfl rfl rfl rfl (by omega) (by omega) (fun r hr hr0 hr1 hr2 => run_l tabOk ?_); conv => whnf) | (refine wl_quo rfl rfl rfl rfl rfl rfl (by omega) (by omega) (by simp only [inK]; omega) (run_l tabOk ?_); conv => whnf) | (refine wl_mul rfl rfl rfl rfl rfl rfl (by omega) (by omega) (run_l tabOk ?_); conv => whnf) | (refine gs_dt (by first | assumption | omega) ?_; conv => whnf) | (refine gs_df (by first | assumption | omega) ?_; conv => whnf) | (refine gs_t (by assumption) ?_; conv => whnf) | (refine gs_f (by assumption) ?_; conv => whnf) | (refine gs_d (fun hg => ?_) (fun hg => ?_) <;> conv => whnf) | (refine gs_n (fun hg => ?_) (fun hg => ?_) <;> conv => whnf) | (refine gs_nb (fun hg => ?_) (fun hg => ?_) <;> conv => whnf) | (refine gs_b (fun hg => ?_) (fun hg => ?_) <;> conv => whnf) | refine fin1 rfl rfl ?_))
        refine wl_bs tabOk 46 4 rfl rfl rfl rfl rfl rfl rfl rfl rfl rfl ?_
        intro gm w9 hn9
        refine run_l tabOk ?_
        conv => whnf
        have hH9 := hH.up hn9.below
        have hb39 := hH9.box
        refine wl_ap tabOk 46 4 48 (o2.kept (grown_of hn9.below) (Classical.em _)) hn9.blk rfl rfl rfl rfl rfl rfl rfl rfl rfl rfl rfl rfl (by simp [Value.oneCell']) (by omega) (by omega) (by have := hn9.size; omega) ?_
        intro E2 ec2 w10 hown10 hg10 hob10
        refine run_l tabOk ?_
        conv => whnf
        have hb310 : w10.heap[g3]? = _ := (hg10.block g3 (blk_lt hb39) (fun e => by have := (o2.lt g3 e.symm).1; omega)).trans hb39
        refine wl_S (off := 2) (v := .slice E2 (o + (v - 1) + 1) ec2) tabOk hb310 rfl rfl rfl rfl rfl rfl (by simp) rfl rfl ?_
        intro w11 hp11
        refine run_l tabOk ?_
        conv => whnf
        have hH11 := hH9.addCon hbase hg3 hg3w (x := ⟨2, (v : Int), (v : Int) - 1, []⟩) (cs := [.int .u8 2, .int .i64 (v : Int), .int .i64 ((v : Int) - 1), .slice none 0 0]) rfl (fun w' => dCon_nil w' 2 (v : Int) ((v : Int) - 1) (by decide) (by omega) (by omega)) e2 hown10 hg10 hp11
        have ecs : hrCons o (v - 1) ++ [⟨2, (v : Int), (v : Int) - 1, []⟩] = hrCons o v := by
          obtain ⟨u, rfl⟩ : ∃ u, v = u + 1 := ⟨v - 1, by omega⟩
          rw [hrCons_next]
          simp
        have el : o + (v - 1) + 1 = o + v := by omega
        rw [ecs, el] at hH11
        (repeat' (first | (refine wl_add rfl rfl rfl rfl rfl rfl (by omega) (by omega) (run_l tabOk ?_); conv => whnf) | (refine wl_sub rfl rfl rfl rfl rfl rfl (by omega) (by omega) (run_l tabOk ?_); conv => whnf) | (refine wl_cvA tabOk rfl rfl rfl (by simp only [inK]; omega) rfl rfl rfl (run_l tabOk ?_); conv => whnf) | (refine wl_cvB tabOk rfl rfl rfl rfl rfl rfl (run_l tabOk ?_); conv => whnf) | (refine wl_rem rfl rfl rfl rfl rfl rfl (by omega) (by omega) (fun r hr hr0 hr1 hr2 => run_l tabOk ?_); conv => whnf) | (refine wl_quo rfl rfl rfl rfl rfl rfl (by omega) (by omega) (by simp only [inK]; omega) (run_l tabOk ?_); conv => whnf) | (refine wl_mul rfl rfl rfl rfl rfl rfl (by omega) (by omega) (run_l tabOk ?_); conv => whnf) | (refine gs_dt (by first | assumption | omega) ?_; conv => whnf) | (refine gs_df (by first | assumption | omega) ?_; conv => whnf) | (refine gs_t (by assumption) ?_; conv => whnf) | (refine gs_f (by assumption) ?_; conv => whnf) | (refine gs_d (fun hg => ?_) (fun hg => ?_) <;> conv => whnf) | (refine gs_n (fun hg => ?_) (fun hg => ?_) <;> conv => whnf) | (refine gs_nb (fun hg => ?_) (fun hg => ?_) <;> conv => whnf) | (refine gs_b (fun hg => ?_) (fun hg => ?_) <;> conv => whnf) | refine fin1 rfl rfl ?_))
        exact ⟨(v + 1, E2, ec2), ⟨rfl, rfl, rfl, rfl, trivial⟩, ⟨⟨by simp only; omega, by simp only; omega⟩, hH11⟩, by simp only; omega⟩
      · have hvk2 : v = k := by omega
        rw [hvk2] at hH
        conv => whnf
        (repeat' (first | (refine wl_add rfl rfl rfl rfl rfl rfl (by omega) (by omega) (run_l tabOk ?_); conv => whnf) | (refine wl_sub rfl rfl rfl rfl rfl rfl (by omega) (by omega) (run_l tabOk ?_); conv => whnf) | (refine wl_cvA tabOk rfl rfl rfl (by simp only [inK]; omega) rfl rfl rfl (run_l tabOk ?_); conv => whnf) | (refine wl_cvB tabOk rfl rfl rfl rfl rfl rfl (run_l tabOk ?_); conv => whnf) | (refine wl_rem rfl rfl rfl rfl rfl rfl (by omega) (by omega) (fun r hr hr0 hr1 hr2 => run_l tabOk ?_); conv => whnf) | (refine wl_quo rfl rfl rfl rfl rfl rfl (by omega) (by omega) (by simp only [inK]; omega) (run_l tabOk ?_); conv => whnf) | (refine wl_mul rfl rfl rfl rfl rfl rfl (by omega) (by omega) (run_l tabOk ?_); conv => whnf) | (refine gs_dt (by first | assumption | omega) ?_; conv => whnf) | (refine gs_df (by first | assumption | omega) ?_; conv => whnf) | (refine gs_t (by assumption) ?_; conv => whnf) | (refine gs_f (by assumption) ?_; conv => whnf) | (refine gs_d (fun hg => ?_) (fun hg => ?_) <;> conv => whnf) | (refine gs_n (fun hg => ?_) (fun hg => ?_) <;> conv => whnf) | (refine gs_nb (fun hg => ?_) (fun hg => ?_) <;> conv => whnf) | (refine gs_b (fun hg => ?_) (fun hg => ?_) <;> conv => whnf) | refine fin1 rfl rfl ?_))
        exact ⟨rfl, (D2, c2), ⟨rfl, rfl, rfl, trivial⟩, hH⟩
    · clear hH
      rintro ⟨D2, c2⟩ G wr hH
      simp only at hH
      have hb3 := hH.box
      have hrx := hH.cells.rowAt hH.below
      have hry := hH.cons.rowAt hH.below
      have hright := hr_right hk2' hk61 ho1 ho7
      have hgo := graphOfR (k + o) (hrCells k o) (hrCons o (k - 1)) D1 D2 c1 c2 wr hrx hry hright
      rw [hH.len1, hH.len2] at hgo
      have hBr := hH.below
      have hxl := hH.len1
      clear hH
      conv => whnf
      (repeat' (first | (refine wl_Lag tabOk hb3 rfl rfl rfl rfl rfl rfl (run_l tabOk ?_); conv => whnf) | (refine wl_add rfl rfl rfl rfl rfl rfl (by omega) (by omega) (run_l tabOk ?_); conv => whnf) | (refine wl_sub rfl rfl rfl rfl rfl rfl (by omega) (by omega) (run_l tabOk ?_); conv => whnf) | (refine wl_cvA tabOk rfl rfl rfl (by simp only [inK]; omega) rfl rfl rfl (run_l tabOk ?_); conv => whnf) | (refine wl_cvB tabOk rfl rfl rfl rfl rfl rfl (run_l tabOk ?_); conv => whnf) | (refine wl_rem rfl rfl rfl rfl rfl rfl (by omega) (by omega) (fun r hr hr0 hr1 hr2 => run_l tabOk ?_); conv => whnf) | (refine wl_quo rfl rfl rfl rfl rfl rfl (by omega) (by omega) (by simp only [inK]; omega) (run_l tabOk ?_); conv => whnf) | (refine wl_mul rfl rfl rfl rfl rfl rfl (by omega) (by omega) (run_l tabOk ?_); conv => whnf) | (refine gs_dt (by first | assumption | omega) ?_; conv => whnf) | (refine gs_df (by first | assumption | omega) ?_; conv => whnf) | (refine gs_t (by assumption) ?_; conv => whnf) | (refine gs_f (by assumption) ?_; conv => whnf) | (refine gs_d (fun hg => ?_) (fun hg => ?_) <;> conv => whnf) | (refine gs_n (fun hg => ?_) (fun hg => ?_) <;> conv => whnf) | (refine gs_nb (fun hg => ?_) (fun hg => ?_) <;> conv => whnf) | (refine gs_b (fun hg => ?_) (fun hg => ?_) <;> conv => whnf) | refine fin1 rfl rfl ?_))
      refine wl_C fn17 hgo rfl rfl rfl rfl rfl rfl rfl ?_
      rintro _ w8 ⟨A', B', C', rfl, k1, k2, k3, hB8⟩
      have hlab := huLabelsR (n := k + o) (xs := hrCells k o) (ys := hrCons o (k - 1)) A' B' C' w8 hright k1 k2 k3
      rw [hxl] at hlab
      refine ⟨_, rfl, run_l tabOk ?_⟩
      conv => whnf
      refine wl_C fn16 hlab rfl rfl rfl rfl rfl rfl rfl ?_
      rintro _ w9 ⟨go, hl, rfl, hrow, hcan, hB9⟩
      obtain ⟨r1, r2⟩ := hr_all hk2' hcan
      have rdl : ∀ wi, Below w9.heap.size w9 wi → ∀ v, v < k + o → wi.cell? ((⟨go, 0, none⟩ : Addr).add (v * 1)) = some (.int .i64 (hl v)) := fun wi hb v hv => by
        rw [Nat.mul_one, add_zero]
        exact cell_up hb (cell_blk hrow (by simpa using fZ_get hv))
      have hBw := bup hBr (bup hB8 hB9)
      clear hlab hgo k1 k2 k3 hrow hcan hrx hry
      refine ⟨_, rfl, run_l tabOk ?_⟩
      conv => whnf
      (repeat' (first | (refine wl_add rfl rfl rfl rfl rfl rfl (by omega) (by omega) (run_l tabOk ?_); conv => whnf) | (refine wl_sub rfl rfl rfl rfl rfl rfl (by omega) (by omega) (run_l tabOk ?_); conv => whnf) | (refine wl_cvA tabOk rfl rfl rfl (by simp only [inK]; omega) rfl rfl rfl (run_l tabOk ?_); conv => whnf) | (refine wl_cvB tabOk rfl rfl rfl rfl rfl rfl (run_l tabOk ?_); conv => whnf) | (refine wl_rem rfl rfl rfl rfl rfl rfl (by omega) (by omega) (fun r hr hr0 hr1 hr2 => run_l tabOk ?_); conv => whnf) | (refine wl_quo rfl rfl rfl rfl rfl rfl (by omega) (by omega) (by simp only [inK]; omega) (run_l tabOk ?_); conv => whnf) | (refine wl_mul rfl rfl rfl rfl rfl rfl (by omega) (by omega) (run_l tabOk ?_); conv => whnf) | (refine gs_dt (by first | assumption | omega) ?_; conv => whnf) | (refine gs_df (by first | assumption | omega) ?_; conv => whnf) | (refine gs_t (by assumption) ?_; conv => whnf) | (refine gs_f (by assumption) ?_; conv => whnf) | (refine gs_d (fun hg => ?_) (fun hg => ?_) <;> conv => whnf) | (refine gs_n (fun hg => ?_) (fun hg => ?_) <;> conv => whnf) | (refine gs_nb (fun hg => ?_) (fun hg => ?_) <;> conv => whnf) | (refine gs_b (fun hg => ?_) (fun hg => ?_) <;> conv => whnf) | refine fin1 rfl rfl ?_))
      refine wc_ends 4 (fun _ _ => False) (X := Unit) (fun _ => [(5, .int .i64 (k : Int)), (6, .int .i64 (o : Int)), (10, .slice (some ⟨go, 0, none⟩) (k + o) (k + o))]) (fun _ wi => Below w9.heap.size w9 wi) ?_ (fun _ _ h => h.elim) ?_
      · refine lp_loop tabOk (X := Nat) (fun v => [(5, .int .i64 (k : Int)), (6, .int .i64 (o : Int)), (10, .slice (some ⟨go, 0, none⟩) (k + o) (k + o)), (11, .int .i64 (v : Int))]) (fun v wi => 1 ≤ v ∧ Below w9.heap.size w9 wi) (fun v => k - v) 1 ⟨rfl, rfl, rfl, rfl, trivial⟩ ⟨by omega, Below.refl _ _⟩ ?_
        rintro v G2 wi ⟨hv, hBi⟩
        by_cases hvk : v < k
        · have c1 := rdl wi hBi v (by omega)
          have c0 : wi.cell? ((⟨go, 0, none⟩ : Addr).add ((0 : Int).toNat * 1)) = _ := rdl wi hBi 0 (by omega)
          have hv0 := r1 v hvk
          conv => whnf
          (repeat' (first | (refine wl_add rfl rfl rfl rfl rfl rfl (by omega) (by omega) (run_l tabOk ?_); conv => whnf) | (refine wl_sub rfl rfl rfl rfl rfl rfl (by omega) (by omega) (run_l tabOk ?_); conv => whnf) | (refine wl_cvA tabOk rfl rfl rfl (by simp only [inK]; omega) rfl rfl rfl (run_l tabOk ?_); conv => whnf) | (refine wl_cvB tabOk rfl rfl rfl rfl rfl rfl (run_l tabOk ?_); conv => whnf) | (refine wl_rem rfl rfl rfl rfl rfl rfl (by omega) (by omega) (fun r hr hr0 hr1 hr2 => run_l tabOk ?_); conv => whnf) | (refine wl_quo rfl rfl rfl rfl rfl rfl (by omega) (by omega) (by simp only [inK]; omega) (run_l tabOk ?_); conv => whnf) | (refine wl_mul rfl rfl rfl rfl rfl rfl (by omega) (by omega) (run_l tabOk ?_); conv => whnf) | (refine gs_dt (by first | assumption | omega) ?_; conv => whnf) | (refine gs_df (by first | assumption | omega) ?_; conv => whnf) | (refine gs_t (by assumption) ?_; conv => whnf) | (refine gs_f (by assumption) ?_; conv => whnf) | (refine gs_d (fun hg => ?_) (fun hg => ?_) <;> conv => whnf) | (refine gs_n (fun hg => ?_) (fun hg => ?_) <;> conv => whnf) | (refine gs_nb (fun hg => ?_) (fun hg => ?_) <;> conv => whnf) | (refine gs_b (fun hg => ?_) (fun hg => ?_) <;> conv => whnf) | refine fin1 rfl rfl ?_))
          refine wc_qr tabOk mixed (by kernel_rfl) ?_; conv => whnf
          (repeat' (first | (refine wq_L tabOk rfl rfl rfl rfl rfl rfl c1 (run_q tabOk ?_); conv => whnf) | (refine wq_L tabOk rfl rfl rfl rfl rfl rfl c0 (run_q tabOk ?_); conv => whnf) | (refine wq_Xn tabOk 3 1 rfl rfl rfl rfl rfl rfl rfl (by omega) (run_q tabOk ?_); conv => whnf) | (refine wq_X tabOk 3 1 rfl rfl rfl rfl rfl rfl rfl (by omega) (by omega) (run_q tabOk ?_); conv => whnf) | (refine wq_add rfl rfl rfl rfl rfl rfl (by omega) (by omega) (run_q tabOk ?_); conv => whnf) | (refine wq_sub rfl rfl rfl rfl rfl rfl (by omega) (by omega) (run_q tabOk ?_); conv => whnf) | (refine wq_cvA tabOk rfl rfl rfl (by simp only [inK]; omega) rfl rfl rfl (run_q tabOk ?_); conv => whnf) | (refine wq_cvB tabOk rfl rfl rfl rfl rfl rfl (run_q tabOk ?_); conv => whnf) | (refine wq_rem rfl rfl rfl rfl rfl rfl (by omega) (by omega) (fun r hr hr0 hr1 hr2 => run_q tabOk ?_); conv => whnf) | (refine wq_quo rfl rfl rfl rfl rfl rfl (by omega) (by omega) (by simp only [inK]; omega) (run_q tabOk ?_); conv => whnf) | (refine wq_mul rfl rfl rfl rfl rfl rfl (by omega) (by omega) (run_q tabOk ?_); conv => whnf) | (refine gs_dt (by first | assumption | omega) ?_; conv => whnf) | (refine gs_df (by first | assumption | omega) ?_; conv => whnf) | (refine gs_t (by assumption) ?_; conv => whnf) | (refine gs_f (by assumption) ?_; conv => whnf) | (refine gs_d (fun hg => ?_) (fun hg => ?_) <;> conv => whnf) | (refine gs_n (fun hg => ?_) (fun hg => ?_) <;> conv => whnf) | (refine gs_nb (fun hg => ?_) (fun hg => ?_) <;> conv => whnf) | (refine gs_b (fun hg => ?_) (fun hg => ?_) <;> conv => whnf)))
          intro w10 hB10
          conv => whnf
          (repeat' (first | (refine wl_add rfl rfl rfl rfl rfl rfl (by omega) (by omega) (run_l tabOk ?_); conv => whnf) | (refine wl_sub rfl rfl rfl rfl rfl rfl (by omega) (by omega) (run_l tabOk ?_); conv => whnf) | (refine wl_cvA tabOk rfl rfl rfl (by simp only [inK]; omega) rfl rfl rfl (run_l tabOk ?_); conv => whnf) | (refine wl_cvB tabOk rfl rfl rfl rfl rfl rfl (run_l tabOk ?_); conv => whnf) | (refine wl_rem rfl rfl rfl rfl rfl rfl (by omega) (by omega) (fun r hr hr0 hr1 hr2 => run_l tabOk ?_); conv => whnf) | (refine wl_quo rfl rfl rfl rfl rfl rfl (by omega) (by omega) (by simp only [inK]; omega) (run_l tabOk ?_); conv => whnf) | (refine wl_mul rfl rfl rfl rfl rfl rfl (by omega) (by omega) (run_l tabOk ?_); conv => whnf) | (refine gs_dt (by first | assumption | omega) ?_; conv => whnf) | (refine gs_df (by first | assumption | omega) ?_; conv => whnf) | (refine gs_t (by assumption) ?_; conv => whnf) | (refine gs_f (by assumption) ?_; conv => whnf) | (refine gs_d (fun hg => ?_) (fun hg => ?_) <;> conv => whnf) | (refine gs_n (fun hg => ?_) (fun hg => ?_) <;> conv => whnf) | (refine gs_nb (fun hg => ?_) (fun hg => ?_) <;> conv => whnf) | (refine gs_b (fun hg => ?_) (fun hg => ?_) <;> conv => whnf) | refine fin1 rfl rfl ?_))
          exact ⟨v + 1, ⟨rfl, rfl, rfl, rfl, trivial⟩, ⟨by omega, bup hBi hB10⟩, by omega⟩
        · conv => whnf
          (repeat' (first | (refine wl_add rfl rfl rfl rfl rfl rfl (by omega) (by omega) (run_l tabOk ?_); conv => whnf) | (refine wl_sub rfl rfl rfl rfl rfl rfl (by omega) (by omega) (run_l tabOk ?_); conv => whnf) | (refine wl_cvA tabOk rfl rfl rfl (by simp only [inK]; omega) rfl rfl rfl (run_l tabOk ?_); conv => whnf) | (refine wl_cvB tabOk rfl rfl rfl rfl rfl rfl (run_l tabOk ?_); conv => whnf) | (refine wl_rem rfl rfl rfl rfl rfl rfl (by omega) (by omega) (fun r hr hr0 hr1 hr2 => run_l tabOk ?_); conv => whnf) | (refine wl_quo rfl rfl rfl rfl rfl rfl (by omega) (by omega) (by simp only [inK]; omega) (run_l tabOk ?_); conv => whnf) | (refine wl_mul rfl rfl rfl rfl rfl rfl (by omega) (by omega) (run_l tabOk ?_); conv => whnf) | (refine gs_dt (by first | assumption | omega) ?_; conv => whnf) | (refine gs_df (by first | assumption | omega) ?_; conv => whnf) | (refine gs_t (by assumption) ?_; conv => whnf) | (refine gs_f (by assumption) ?_; conv => whnf) | (refine gs_d (fun hg => ?_) (fun hg => ?_) <;> conv => whnf) | (refine gs_n (fun hg => ?_) (fun hg => ?_) <;> conv => whnf) | (refine gs_nb (fun hg => ?_) (fun hg => ?_) <;> conv => whnf) | (refine gs_b (fun hg => ?_) (fun hg => ?_) <;> conv => whnf) | refine fin1 rfl rfl ?_))
          exact ⟨rfl, (), ⟨rfl, rfl, rfl, trivial⟩, hBi⟩
      · rintro _ G2 wi hBi
        conv => whnf
        (repeat' (first | (refine wl_add rfl rfl rfl rfl rfl rfl (by omega) (by omega) (run_l tabOk ?_); conv => whnf) | (refine wl_sub rfl rfl rfl rfl rfl rfl (by omega) (by omega) (run_l tabOk ?_); conv => whnf) | (refine wl_cvA tabOk rfl rfl rfl (by simp only [inK]; omega) rfl rfl rfl (run_l tabOk ?_); conv => whnf) | (refine wl_cvB tabOk rfl rfl rfl rfl rfl rfl (run_l tabOk ?_); conv => whnf) | (refine wl_rem rfl rfl rfl rfl rfl rfl (by omega) (by omega) (fun r hr hr0 hr1 hr2 => run_l tabOk ?_); conv => whnf) | (refine wl_quo rfl rfl rfl rfl rfl rfl (by omega) (by omega) (by simp only [inK]; omega) (run_l tabOk ?_); conv => whnf) | (refine wl_mul rfl rfl rfl rfl rfl rfl (by omega) (by omega) (run_l tabOk ?_); conv => whnf) | (refine gs_dt (by first | assumption | omega) ?_; conv => whnf) | (refine gs_df (by first | assumption | omega) ?_; conv => whnf) | (refine gs_t (by assumption) ?_; conv => whnf) | (refine gs_f (by assumption) ?_; conv => whnf) | (refine gs_d (fun hg => ?_) (fun hg => ?_) <;> conv => whnf) | (refine gs_n (fun hg => ?_) (fun hg => ?_) <;> conv => whnf) | (refine gs_nb (fun hg => ?_) (fun hg => ?_) <;> conv => whnf) | (refine gs_b (fun hg => ?_) (fun hg => ?_) <;> conv => whnf) | refine fin1 rfl rfl ?_))
        refine lp_loop tabOk (X := Nat) (fun v => [(5, .int .i64 (k : Int)), (6, .int .i64 (o : Int)), (10, .slice (some ⟨go, 0, none⟩) (k + o) (k + o)), (12, .int .i64 (v : Int))]) (fun v wi => 1 ≤ v ∧ Below w9.heap.size w9 wi) (fun v => o - v) 1 ⟨rfl, rfl, rfl, rfl, trivial⟩ ⟨by omega, hBi⟩ ?_
        clear hBi
        rintro v G3 wi ⟨hv, hBi⟩
        by_cases hvo : v < o
        · obtain ⟨h1, h2⟩ := r2 v hv hvo
          have e1 : ((k : Int) + (v : Int)).toNat = k + v := by omega
          have e0 : ((k : Int) + (v : Int) - 1).toNat = k + v - 1 := by omega
          have c1 : wi.cell? ((⟨go, 0, none⟩ : Addr).add (((k : Int) + (v : Int)).toNat * 1)) = some (.int .i64 (hl (k + v))) := by rw [e1]; exact rdl wi hBi (k + v) (by omega)
          have c0 : wi.cell? ((⟨go, 0, none⟩ : Addr).add (((k : Int) + (v : Int) - 1).toNat * 1)) = some (.int .i64 (hl (k + v - 1))) := by rw [e0]; exact rdl wi hBi (k + v - 1) (by omega)
          conv => whnf
          (repeat' (first | (refine wl_add rfl rfl rfl rfl rfl rfl (by omega) (by omega) (run_l tabOk ?_); conv => whnf) | (refine wl_sub rfl rfl rfl rfl rfl rfl (by omega) (by omega) (run_l tabOk ?_); conv => whnf) | (refine wl_cvA tabOk rfl rfl rfl (by simp only [inK]; omega) rfl rfl rfl (run_l tabOk ?_); conv => whnf) | (refine wl_cvB tabOk rfl rfl rfl rfl rfl rfl (run_l tabOk ?_); conv => whnf) | (refine wl_rem rfl rfl rfl rfl rfl rfl (by omega) (by omega) (fun r hr hr0 hr1 hr2 => run_l tabOk ?_); conv => whnf) | (refine wl_quo rfl rfl rfl rfl rfl rfl (by omega) (by omega) (by simp only [inK]; omega) (run_l tabOk ?_); conv => whnf) | (refine wl_mul rfl rfl rfl rfl rfl rfl (by omega) (by omega) (run_l tabOk ?_); conv => whnf) | (refine gs_dt (by first | assumption | omega) ?_; conv => whnf) | (refine gs_df (by first | assumption | omega) ?_; conv => whnf) | (refine gs_t (by assumption) ?_; conv => whnf) | (refine gs_f (by assumption) ?_; conv => whnf) | (refine gs_d (fun hg => ?_) (fun hg => ?_) <;> conv => whnf) | (refine gs_n (fun hg => ?_) (fun hg => ?_) <;> conv => whnf) | (refine gs_nb (fun hg => ?_) (fun hg => ?_) <;> conv => whnf) | (refine gs_b (fun hg => ?_) (fun hg => ?_) <;> conv => whnf) | refine fin1 rfl rfl ?_))
          refine wc_qr tabOk mixed (by kernel_rfl) ?_; conv => whnf
          (repeat' (first | (refine wq_L tabOk rfl rfl rfl rfl rfl rfl c1 (run_q tabOk ?_); conv => whnf) | (refine wq_L tabOk rfl rfl rfl rfl rfl rfl c0 (run_q tabOk ?_); conv => whnf) | (refine wq_Xn tabOk 3 1 rfl rfl rfl rfl rfl rfl rfl (by omega) (run_q tabOk ?_); conv => whnf) | (refine wq_X tabOk 3 1 rfl rfl rfl rfl rfl rfl rfl (by omega) (by omega) (run_q tabOk ?_); conv => whnf) | (refine wq_add rfl rfl rfl rfl rfl rfl (by omega) (by omega) (run_q tabOk ?_); conv => whnf) | (refine wq_sub rfl rfl rfl rfl rfl rfl (by omega) (by omega) (run_q tabOk ?_); conv => whnf) | (refine wq_cvA tabOk rfl rfl rfl (by simp only [inK]; omega) rfl rfl rfl (run_q tabOk ?_); conv => whnf) | (refine wq_cvB tabOk rfl rfl rfl rfl rfl rfl (run_q tabOk ?_); conv => whnf) | (refine wq_rem rfl rfl rfl rfl rfl rfl (by omega) (by omega) (fun r hr hr0 hr1 hr2 => run_q tabOk ?_); conv => whnf) | (refine wq_quo rfl rfl rfl rfl rfl rfl (by omega) (by omega) (by simp only [inK]; omega) (run_q tabOk ?_); conv => whnf) | (refine wq_mul rfl rfl rfl rfl rfl rfl (by omega) (by omega) (run_q tabOk ?_); conv => whnf) | (refine gs_dt (by first | assumption | omega) ?_; conv => whnf) | (refine gs_df (by first | assumption | omega) ?_; conv => whnf) | (refine gs_t (by assumption) ?_; conv => whnf) | (refine gs_f (by assumption) ?_; conv => whnf) | (refine gs_d (fun hg => ?_) (fun hg => ?_) <;> conv => whnf) | (refine gs_n (fun hg => ?_) (fun hg => ?_) <;> conv => whnf) | (refine gs_nb (fun hg => ?_) (fun hg => ?_) <;> conv => whnf) | (refine gs_b (fun hg => ?_) (fun hg => ?_) <;> conv => whnf)))
          intro w10 hB10
          conv => whnf
          (repeat' (first | (refine wl_add rfl rfl rfl rfl rfl rfl (by omega) (by omega) (run_l tabOk ?_); conv => whnf) | (refine wl_sub rfl rfl rfl rfl rfl rfl (by omega) (by omega) (run_l tabOk ?_); conv => whnf) | (refine wl_cvA tabOk rfl rfl rfl (by simp only [inK]; omega) rfl rfl rfl (run_l tabOk ?_); conv => whnf) | (refine wl_cvB tabOk rfl rfl rfl rfl rfl rfl (run_l tabOk ?_); conv => whnf) | (refine wl_rem rfl rfl rfl rfl rfl rfl (by omega) (by omega) (fun r hr hr0 hr1 hr2 => run_l tabOk ?_); conv => whnf) | (refine wl_quo rfl rfl rfl rfl rfl rfl (by omega) (by omega) (by simp only [inK]; omega) (run_l tabOk ?_); conv => whnf) | (refine wl_mul rfl rfl rfl rfl rfl rfl (by omega) (by omega) (run_l tabOk ?_); conv => whnf) | (refine gs_dt (by first | assumption | omega) ?_; conv => whnf) | (refine gs_df (by first | assumption | omega) ?_; conv => whnf) | (refine gs_t (by assumption) ?_; conv => whnf) | (refine gs_f (by assumption) ?_; conv => whnf) | (refine gs_d (fun hg => ?_) (fun hg => ?_) <;> conv => whnf) | (refine gs_n (fun hg => ?_) (fun hg => ?_) <;> conv => whnf) | (refine gs_nb (fun hg => ?_) (fun hg => ?_) <;> conv => whnf) | (refine gs_b (fun hg => ?_) (fun hg => ?_) <;> conv => whnf) | refine fin1 rfl rfl ?_))
          exact ⟨v + 1, ⟨rfl, rfl, rfl, rfl, trivial⟩, ⟨by omega, bup hBi hB10⟩, by omega⟩
        · conv => whnf
          (repeat' (first | (refine wl_add rfl rfl rfl rfl rfl rfl (by omega) (by omega) (run_l tabOk ?_); conv => whnf) | (refine wl_sub rfl rfl rfl rfl rfl rfl (by omega) (by omega) (run_l tabOk ?_); conv => whnf) | (refine wl_cvA tabOk rfl rfl rfl (by simp only [inK]; omega) rfl rfl rfl (run_l tabOk ?_); conv => whnf) | (refine wl_cvB tabOk rfl rfl rfl rfl rfl rfl (run_l tabOk ?_); conv => whnf) | (refine wl_rem rfl rfl rfl rfl rfl rfl (by omega) (by omega) (fun r hr hr0 hr1 hr2 => run_l tabOk ?_); conv => whnf) | (refine wl_quo rfl rfl rfl rfl rfl rfl (by omega) (by omega) (by simp only [inK]; omega) (run_l tabOk ?_); conv => whnf) | (refine wl_mul rfl rfl rfl rfl rfl rfl (by omega) (by omega) (run_l tabOk ?_); conv => whnf) | (refine gs_dt (by first | assumption | omega) ?_; conv => whnf) | (refine gs_df (by first | assumption | omega) ?_; conv => whnf) | (refine gs_t (by assumption) ?_; conv => whnf) | (refine gs_f (by assumption) ?_; conv => whnf) | (refine gs_d (fun hg => ?_) (fun hg => ?_) <;> conv => whnf) | (refine gs_n (fun hg => ?_) (fun hg => ?_) <;> conv => whnf) | (refine gs_nb (fun hg => ?_) (fun hg => ?_) <;> conv => whnf) | (refine gs_b (fun hg => ?_) (fun hg => ?_) <;> conv => whnf) | refine fin1 rfl rfl ?_))
          exact ⟨rfl, bup hBw hBi⟩
end Go.Proofs.Ytjggjhgbobmkhaa
