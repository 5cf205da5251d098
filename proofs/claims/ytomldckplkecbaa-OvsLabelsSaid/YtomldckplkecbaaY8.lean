/- Several texts of one claim in one file: EX2 EX3 EX4 EY QR20 KS16 SRT. -/
import Derived.Test.YtomldckplkecbaaY7
import Derived.Test.YtomldckplkecbaaY5
import Derived.Test.YtomldckplkecbaaY6
import Derived.Laws.CopyRow
import Derived.Shelf.Sort.Plain
import Derived.Shelf.Slices.In.SortNone
import Derived.Sort.OwnSortedInts
/- The orders once more, where operations have guards. -/
namespace Go.Proofs.Ytomldckplkecbaa
open Go.RowKit
set_option linter.unusedVariables false
set_option linter.unusedSimpArgs false
section
variable {P : Program} {ops : Array Oper} {md : Region.Mode} {C : World → Prop}
def exB2 (md : Region.Mode) (ops : Array Oper) (g n : Nat) : Nat → Array Bool → Bool
  | 0, listed => Region.seqB md ops g n listed
  | f + 1, listed => !(Region.ready md ops listed).isEmpty && (Region.ready md ops listed).all fun i => decide (i < n) && (ops[i]?).isSome && exB2 md ops g n f (listed.setIfInBounds i true)
def exA2 (P : Program) (md : Region.Mode) (ops : Array Oper) (C : World → Prop) (T : Act → World → Prop) : Nat → Array Bool → Act → World → Prop
  | 0, _, a, W => T a W
  | f + 1, listed, a, W => ∀ i ∈ Region.ready md ops listed, ∀ o, ops[i]? = some o →
    if Region.wanted o (yielded ops a.tmps) = true then runsTo P o a W fun v w2 => C w2 ∧ ∀ W', Below w2.heap.size w2 W' → C W' → exA2 P md ops C T f (listed.setIfInBounds i true) (a.put o.dst v) W'
    else exA2 P md ops C T f (listed.setIfInBounds i true) (a.put o.dst undef) W
theorem wpX_of_ex2 {g n : Nat} {T : Act → World → Prop} : ∀ (f : Nat) (listed : Array Bool) (Φ : World → Prop) (a : Act), exB2 md ops g n f listed = true → (∀ W, C W → Φ W → exA2 P md ops C T f listed a W) →
    wpX P md ops C n (fun listed' Φ' a' => Region.seqB md ops g n listed' = true ∧ ∀ W, C W → Φ' W → T a' W) f listed Φ a
  | 0, listed, Φ, a, hB, h => ⟨hB, h⟩
  | f + 1, listed, Φ, a, hB, h => by
    simp only [exB2, Bool.and_eq_true, Bool.not_eq_true', List.isEmpty_eq_false_iff, List.all_eq_true, decide_eq_true_eq] at hB
    refine ⟨hB.1, fun i hi => ?_⟩
    obtain ⟨⟨h1, h2⟩, h3⟩ := hB.2 i hi
    refine ⟨h1, ?_⟩
    cases ho : ops[i]? with
    | none => rw [ho] at h2; simp at h2
    | some o =>
      unfold Proofs.Ytomldckplkecbaa.xOp
      simp only [ho]
      by_cases hw : Region.wanted o (yielded ops a.tmps) = true
      · rw [if_pos hw]
        refine .inr ⟨fun v W => ∃ w2, Below w2.heap.size w2 W ∧ ∀ W', Below w2.heap.size w2 W' → C W' → exA2 P md ops C T f (listed.setIfInBounds i true) (a.put o.dst v) W', fun v w w' ⟨w2, h1, h2⟩ hb => ⟨w2, bup h1 hb, h2⟩, fun w hwc hΦ => ?_, fun v => wpX_of_ex2 f _ _ _ h3 fun W hW ⟨w2, h1, h2⟩ => h2 W h1 hW⟩
        have := h w hwc hΦ i hi o ho
        rw [if_pos hw] at this
        exact this.mono fun v w2 ⟨h4, h5⟩ => ⟨h4, w2, Below.refl _ _, h5⟩
      · rw [if_neg hw]
        refine wpX_of_ex2 f _ _ _ h3 fun W hW hΦ => ?_
        have := h W hW hΦ i hi o ho
        rwa [if_neg hw] at this
def permB2 (md : Region.Mode) (ops : Array Oper) (g n f : Nat) : List Nat → Array Bool → Bool
  | [], listed => exB2 md ops g n f listed
  | k :: qs, listed => decide (k < n) && (Region.ready md ops listed).contains k && Region.free md ops listed k && permB2 md ops g n f qs (listed.setIfInBounds k true)
theorem wpX_perm2 {n g f : Nat} {T : Act → World → Prop} (hsel : Region.noSelect ops = true) (hs : Region.sinkB md ops n = true) (hc : Region.chainB md ops n = true) (hn : n < ops.size) :
    ∀ (qs : List Nat) (listed : Array Bool) (Φ : World → Prop) (a : Act), HeadInv md ops n listed → permB2 md ops g n f qs listed = true →
    wpQB P ops C (fun a' => ∀ W, C W → Φ W → exA2 P md ops C T f (setAllB qs listed) a' W) (opsAt ops qs) a →
    wpX P md ops C n (fun listed' Φ' a' => Region.seqB md ops g n listed' = true ∧ ∀ W, C W → Φ' W → T a' W) (qs.length + f) listed Φ a
  | [], listed, Φ, a, inv, hB, h => by
    rw [List.length_nil, Nat.zero_add]
    exact wpX_of_ex2 f listed Φ a hB h
  | k :: qs, listed, Φ, a, inv, hB, h => by
    simp only [permB2, Bool.and_eq_true, decide_eq_true_eq] at hB
    obtain ⟨⟨⟨hkn, hr⟩, hf⟩, hB'⟩ := hB
    have hr' : k ∈ Region.ready md ops listed := by simpa using hr
    obtain ⟨o, h0⟩ : ∃ o, ops[k]? = some o := ⟨ops[k]'(by omega), by simp⟩
    have e1 : opsAt ops (k :: qs) = o :: opsAt ops qs := by simp [opsAt, h0]
    rw [e1] at h
    have key : ∃ v, YieldsB P ops C o v a ∧ wpQB P ops C (fun a' => ∀ W, C W → Φ W → exA2 P md ops C T f (setAllB (k :: qs) listed) a' W) (opsAt ops qs) (a.put o.dst v) := by
      unfold wpQB at h
      by_cases hw : Region.wanted o (yielded ops a.tmps) = true
      · rw [if_pos hw] at h
        obtain ⟨v, h1, h2⟩ := h
        exact ⟨v, .inl ⟨hw, h1⟩, h2⟩
      · rw [if_neg hw] at h
        exact ⟨undef, .inr ⟨by simpa using hw, rfl⟩, h⟩
    obtain ⟨v, hy, hK⟩ := key
    have e : (k :: qs).length + f = qs.length + f + 1 := by simp; omega
    rw [e]
    exact wpX_first h0 (Region.noSelect_spec hsel) hs hc hn hkn (fun listed' Φ' a' hL => seqB_ready hL.1) (qs.length + f) listed Φ a inv (Region.free_spec h0 hf) hr' hy
      (wpX_perm2 hsel hs hc hn qs _ Φ _ (inv.set hr' hkn) hB' hK)
def permAll2 (ops : Array Oper) (qs : List Nat) (f n : Nat) : Bool :=
  Region.noSelect ops && decide (n < ops.size) && decide (qs.length + f = n) && Region.sinkB .any ops n && Region.chainB .any ops n && permB2 .any ops (ops.size - n) n f qs (Array.replicate ops.size false)
theorem wp_region_perm2 {id : Nat} {Q : Exit → Act → World → Prop} {a : Act} {w : World} {l : List Oper} (qs : List Nat) (f n : Nat) (hC : Stable C) (hm : P.follows .mixedOrders = true) (hB : permAll2 l.toArray qs f n = true) (hCw : C w)
    (h : wpQB P l.toArray C (fun a' => ∀ W, C W → Below w.heap.size w W → exA2 P .any l.toArray C (wpList P l.toArray Q (l.drop n)) f (setAllB qs (Array.replicate l.toArray.size false)) a' W) (opsAt l.toArray qs) a) : (Code.region id l.toArray true).wp P Q a w := by
  simp only [permAll2, Bool.and_eq_true, decide_eq_true_eq] at hB
  obtain ⟨⟨⟨⟨⟨hsel, hn⟩, hqf⟩, hs⟩, hc⟩, hperm⟩ := hB
  have hdl : (l.drop n).length = l.toArray.size - n := by simp
  have inv0 : HeadInv .any l.toArray n (Array.replicate l.toArray.size false) :=
    ⟨by simp, fun j oj _ hl => (by rw [getD_replicate_false] at hl; cases hl), fun t _ ht => getD_in (by simpa using ht) (getD_replicate_false _ _)⟩
  have H := wpX_perm2 (P := P) (C := C) (md := .any) (g := l.toArray.size - n) (T := wpList P l.toArray Q (l.drop n)) hsel hs hc hn qs _ (fun W => Below w.heap.size w W) a inv0 hperm h
  refine wp_region_any hm ?_
  have hst : Stable (fun W => Below w.heap.size w W) := fun _ _ h h' => bup h h'
  have hΦ : Below w.heap.size w { w with drawn := w.drawn + 1 } := ⟨rfl, rfl, rfl, Nat.le_refl _, fun _ _ => rfl⟩
  have hw' : C { w with drawn := w.drawn + 1 } := hC _ _ hCw ⟨rfl, rfl, rfl, Nat.le_refl _, fun _ _ => rfl⟩
  have := wpAny_of_X hC (Q' := Q) (g := l.toArray.size - n) (L := fun listed' Φ' a' => Region.seqB .any l.toArray (l.toArray.size - n) n listed' = true ∧ ∀ W, C W → Φ' W → wpList P l.toArray Q (l.drop n) a' W) (fun listed Φ a' W hW hΦ hL => by
    have := wpAny_of_seq (md := .any) (Q' := Q) (l.drop n) n listed a' W (fun j => by simp [List.getElem?_drop]) (by rw [hdl]; exact hL.1) (hL.2 W hW hΦ)
    rwa [hdl] at this) _ _ (fun W => Below w.heap.size w W) a _ hst hw' hΦ H
  have e : qs.length + f + (l.toArray.size - n) = l.toArray.size := by omega
  rwa [e] at this
end
section
variable {P : Program} {T : Nat → Option TI} {n : Nat} {Q : Post} {F : Fm} {w : World} {ops : Array Oper} {o : Oper} {C : World → Prop}
def opF2 (P : Program) (n : Nat) (l : List Oper) (i : Nat) (F : Fm) (w : World) (K Ku : Fm → World → Prop) : Prop :=
  match l[i]? with
  | none => True
  | some o => match o.guard with
    | none => wb P n o F w K
    | some (j, b) => match l[j]? with
      | none => False
      | some oj => match oj.dst, o.dst with
        | some t, some d => bif Nat.blt t n && Nat.blt d n then (match F t with
          | .bool c => gs c (match b with | true => wb P n (ung o) F w K | false => Ku (upd F d undef) w) (match b with | true => Ku (upd F d undef) w | false => wb P n (ung o) F w K)
          | _ => False) else False
        | _, _ => False
def exF2 (P : Program) (n : Nat) (l : List Oper) (C : World → Prop) (T : Fm → World → Prop) : Nat → List Bool → Fm → World → Prop
  | 0, _, F, W => T F W
  | f + 1, listed, F, W => allL (fun i => opF2 P n l i F W (fun F2 w2 => C w2 ∧ ∀ W', Below w2.heap.size w2 W' → C W' → exF2 P n l C T f (listed.set i true) F2 W') fun F2 W2 => exF2 P n l C T f (listed.set i true) F2 W2) (rdyL l listed)
theorem wanted_eq {l : List Oper} {o oj : Oper} {j : Nat} {b c : Bool} {t : Tmp} {a : Act} (ha : Fr a n F) (hg : o.guard = some (j, b)) (hj : l[j]? = some oj) (ht : oj.dst = some t) (hb : F t = .bool c) (hn : Nat.blt t n = true) : Region.wanted o (yielded l.toArray a.tmps) = (c == b) := by
  have hlt : t < a.tmps.size := by rw [ha.size]; exact nblt hn
  have h1 := ha.get t
  rw [hb, Array.getD_eq_getD_getElem?, Array.getElem?_eq_getElem hlt] at h1
  have hj' : l.toArray[j]? = some oj := by simpa using hj
  simp only [Region.wanted, hg, yielded, hj', Option.bind_some, ht, Array.getElem?_eq_getElem hlt]
  simp at h1
  simp [h1]
theorem runs_ung {a : Act} {R : Value → World → Prop} (h : runsTo P (ung o) a w R) : runsTo P o a w R := h
theorem exA2_of {l : List Oper} {T : Fm → World → Prop} {T' : Act → World → Prop} (hT' : ∀ a F W, Fr a n F → T F W → T' a W) : ∀ (f : Nat) (listed : List Bool) (a : Act) (F : Fm) (W : World), Fr a n F → exF2 P n l C T f listed F W → exA2 P .any l.toArray C T' f listed.toArray a W
  | 0, _, a, F, W, ha, h => hT' a F W ha h
  | f + 1, listed, a, F, W, ha, h => fun i hi o ho => by
    rw [rdyL_eq] at hi
    have h1 := allL_mem h i hi
    unfold opF2 at h1
    have ho' : l[i]? = some o := by simpa using ho
    rw [ho'] at h1
    have e : (listed.set i true).toArray = listed.toArray.setIfInBounds i true := by simp
    have fin : ∀ {o' : Oper}, o'.dst = o.dst → wb P n o' F W (fun F2 w2 => C w2 ∧ ∀ W', Below w2.heap.size w2 W' → C W' → exF2 P n l C T f (listed.set i true) F2 W') → runsTo P o' a W fun v w2 => C w2 ∧ ∀ W', Below w2.heap.size w2 W' → C W' → exA2 P .any l.toArray C T' f (listed.toArray.setIfInBounds i true) (a.put o.dst v) W' := fun {o'} he hw => by
      refine (hw.runs ha).mono fun v w2 ⟨h3, h4⟩ => ⟨h3, fun W' hW' hC' => ?_⟩
      have hd : dstOk n o.dst = true := by rw [← he]; exact hw.dst
      rw [he] at h4
      have := exA2_of hT' f _ _ _ W' (ha.put hd v) (h4 W' hW' hC')
      rwa [e] at this
    cases hg : o.guard with
    | none =>
      simp only [hg] at h1
      rw [if_pos (by simp [Region.wanted, hg])]
      exact fin rfl h1
    | some jb =>
      obtain ⟨j, b⟩ := jb
      simp only [hg] at h1
      cases hj : l[j]? with
      | none => rw [hj] at h1; exact h1.elim
      | some oj =>
        rw [hj] at h1
        simp only at h1
        cases ht : oj.dst with
        | none => rw [ht] at h1; exact h1.elim
        | some t =>
          cases hd : o.dst with
          | none => rw [ht, hd] at h1; exact h1.elim
          | some d =>
            rw [ht, hd] at h1
            simp only at h1
            cases hb : (Nat.blt t n && Nat.blt d n) with
            | false => rw [hb] at h1; exact h1.elim
            | true =>
              rw [hb] at h1
              simp only [cond_true] at h1
              have hbb := Bool.and_eq_true_iff.1 hb
              cases hv : F t <;> rw [hv] at h1 <;> try exact h1.elim
              rename_i c
              have hw := wanted_eq ha hg hj ht hv hbb.1
              rw [hw]
              have un : exF2 P n l C T f (listed.set i true) (upd F d undef) W → exA2 P .any l.toArray C T' f (listed.toArray.setIfInBounds i true) (a.put (some d) undef) W := fun hk => by
                have h5 := ha.put (d := some d) (by exact hbb.2) undef
                have := exA2_of hT' f _ _ _ W h5 hk
                rwa [e] at this
              have fn := fin (o' := ung o) rfl
              rw [hd] at fn
              cases c <;> cases b <;> simp only [gs] at h1
              · rw [if_pos (by decide)]; exact runs_ung (fn h1)
              · rw [if_neg (by decide)]; exact un h1
              · rw [if_neg (by decide)]; exact un h1
              · rw [if_pos (by decide)]; exact runs_ung (fn h1)
theorem wc_qg {id : Nat} {l : List Oper} (qs : List Nat) (f m : Nat) (hC : Stable C) (hT : TabOk P T) (hm : P.follows .mixedOrders = true) (hB : permAll2 l.toArray qs f m = true) (hCw : C w)
    (h : runQ P T n l.toArray C (opsL l qs) (fun F' => ∀ w1, C w1 → Below w.heap.size w w1 → exF2 P n l C (fun F2 W => runG P T n l.toArray (l.drop m) Q F2 W) f (setAllL qs (List.replicate l.length false)) F' w1) F) : wc P n (.region id l.toArray true) Q F w := by
  unfold wc
  intro a ha
  have hq := (run_q hT h).go a ha
  rw [← opsL_eq] at hq
  refine wp_region_perm2 qs f m hC hm hB hCw (wpQB_mono ?_ hq)
  rintro a' ⟨F', h2, h3⟩ w1 hw1 hb1
  have := exA2_of (T' := wpList P l.toArray (lift n Q) (l.drop m)) (T := fun F2 W => runG P T n l.toArray (l.drop m) Q F2 W) (fun a F W ha h => ?_) _ _ _ _ _ h2 (h3 w1 hw1 hb1)
  · rw [← setAllL_eq] at this
    have e : (List.replicate l.length false).toArray = Array.replicate l.toArray.size false := by simp
    rwa [e] at this
  · have := run_l hT h
    unfold wl at this
    exact this _ ha
end
end Go.Proofs.Ytomldckplkecbaa

/- Rows whose elements look at elder blocks; loads in drawn regions with several makes. -/
namespace Go.Proofs.Ytomldckplkecbaa
open Go.RowKit
set_option linter.unusedVariables false
set_option linter.unusedSimpArgs false
/-- A row of the call's own whose elements look at elder blocks alone. -/
structure LRow {α : Type} [Inhabited α] (sz : Nat) (d : Dec α) (e : TypeId) (base : Nat) (w0 w : World) (v : Value) (xs : List α) : Prop where
  own : ∃ flat, w.ownsRow base e sz v xs.length flat ∧ ∀ w', Below w0.heap.size w0 w' → Elems sz d w' flat xs
section
variable {α : Type} [Inhabited α] {sz : Nat} {d : Dec α} {e : TypeId} {base : Nat} {w0 w w1 : World} {v v' : Value} {xs : List α}
theorem LRow.nil (sz : Nat) (d : Dec α) (e : TypeId) (base : Nat) (w0 w : World) : LRow sz d e base w0 w (.slice none 0 0) ([] : List α) := ⟨[], own_nil .., fun _ _ => Elems.nil ..⟩
theorem LRow.up (h : LRow sz d e base w0 w v xs) (hb : Below w.heap.size w w1) : LRow sz d e base w0 w1 v xs := by
  obtain ⟨flat, h1, h2⟩ := h.own
  exact ⟨flat, h1.kept (grown_of hb) (Classical.em _), h2⟩
theorem LRow.row (h : LRow sz d e base w0 w v xs) (hb : Below w0.heap.size w0 w) : ∃ A c, v = .slice A xs.length c ∧ xs.length ≤ c ∧ RowR sz d w A xs := by
  obtain ⟨flat, h1, h2⟩ := h.own
  exact row_of_own h1 rfl (h2 w hb)
theorem LRow.rowAt {A : Option Addr} {n c : Nat} (h : LRow sz d e base w0 w (.slice A n c) xs) (hb : Below w0.heap.size w0 w) : RowR sz d w A xs := by
  obtain ⟨A', c', e1, _, h2⟩ := h.row hb
  injection e1 with e1 _ _
  subst e1
  exact h2
end
section
variable {P : Program} {T : Nat → Option TI} {n : Nat} {F : Fm} {w : World} {o : Oper} {K : Fm → World → Prop}
theorem wb_L (hT : TabOk P T) {t : TypeId} {x : Operand} {a : Addr} {v : Value} (hop : o.op = .load t x) (hx : ev F x = .pointer (some a)) (h1 : oneT T t = true) {d : Nat} (hd : o.dst = some d) (hn : Nat.blt d n = true) (hc : w.cell? a = some v) (k : K (upd F d v) w) : wb P n o F w K :=
  wb_val hd hn (by simp [execOp, hop, hx, Instr.loadAt, Instr.sureAddr, run_load_one hT h1 hc]) k
theorem wb_Lg (hT : TabOk P T) {t t' : TypeId} {x : Operand} {g off : Nat} {cs : Array Value} {fr : Nat × Nat} {v : Value} (hb : w.heap[g]? = some (.cells cs t' fr)) (hop : o.op = .load t x) (hx : ev F x = .pointer (some ⟨g, off, none⟩)) (h1 : oneT T t = true) {d : Nat} (hd : o.dst = some d) (hn : Nat.blt d n = true) (hv : cs[off]? = some v) (k : K (upd F d v) w) : wb P n o F w K :=
  wb_L hT hop hx h1 hd hn (cell_blk hb hv) k
theorem wb_Lag (hT : TabOk P T) {t t' : TypeId} {x : Operand} {g : Nat} {cs : List Value} {fr : Nat × Nat} (hb : w.heap[g]? = some (.cells cs.toArray t' fr)) (hop : o.op = .load t x) (hx : ev F x = .pointer (some ⟨g, 0, none⟩)) (h1 : aggT T t cs.length = true) {d : Nat} (hd : o.dst = some d) (hn : Nat.blt d n = true) (k : K (upd F d (.agg cs.toArray)) w) : wb P n o F w K := by
  refine wb_val hd hn ?_ k
  have h2 := aggT_run (P := P) (w := w) hT h1
  have h3 := run_loadCells (P := P) cs 0 #[] (cellsAt_blk hb cs 0 0 (by simp))
  simp [execOp, hop, hx, Instr.loadAt, Instr.sureAddr, loadVar, h2, loadCells, h3]
theorem wb_add {x y : Operand} {xt yt : TypeId} {a b : Int} (hop : o.op = .binOp .add xt x y yt) (hx : ev F x = .int .i64 a) (hy : ev F y = .int .i64 b) {d : Nat} (hd : o.dst = some d) (hn : Nat.blt d n = true) (h1 : -9223372036854775808 ≤ a + b) (h2 : a + b ≤ 9223372036854775807) (k : K (upd F d (.int .i64 (a + b))) w) : wb P n o F w K :=
  wb_val hd hn (by simp [execOp, hop, hx, hy, eqGuard, binOp, Op.intArith, wrap_in h1 h2]) k
end
end Go.Proofs.Ytomldckplkecbaa

/- Regions that draw their order: one invariant for all orders; the orders are checked over lists. -/
namespace Go.Proofs.Ytomldckplkecbaa
open Go.RowKit
set_option linter.unusedVariables false
set_option linter.unusedSimpArgs false
/-- All but the blocks of rb stays. -/
abbrev Kr (w : World) (rb : List Nat) : World → Prop := fun w' => Kept rb w w'
theorem stable_Kr (w : World) (rb : List Nat) : Stable (Kr w rb) := fun _ _ h h' => h.up h'
def nextL (l : List Oper) (S : List (List Bool)) : List (List Bool) := (S.flatMap fun st => (rdyL l st).map fun i => st.set i true).eraseDups
/-- All ways on, level by level. -/
def exL (l : List Oper) (oth : List Nat) (full : List Bool) : Nat → List (List Bool) → Bool
  | 0, S => S.all fun st => st == full
  | f + 1, S => (S.all fun st => !(rdyL l st).isEmpty && (rdyL l st).all fun i => oth.contains i) && exL l oth full f (nextL l S)
theorem exL_spec {l : List Oper} {oth : List Nat} {full : List Bool} {f : Nat} {S : List (List Bool)} (h : exL l oth full (f + 1) S = true) {st : List Bool} (hs : st ∈ S) : (rdyL l st).isEmpty = false ∧ (∀ i ∈ rdyL l st, i ∈ oth ∧ st.set i true ∈ nextL l S) ∧ exL l oth full f (nextL l S) = true := by
  simp only [exL, Bool.and_eq_true, List.all_eq_true, Bool.not_eq_true'] at h
  obtain ⟨h1, h2⟩ := h
  refine ⟨(h1 st hs).1, fun i hi => ⟨by simpa using (h1 st hs).2 i hi, ?_⟩, h2⟩
  unfold nextL
  rw [List.mem_eraseDups]
  exact List.mem_flatMap.2 ⟨st, hs, List.mem_map.2 ⟨i, hi, rfl⟩⟩
def othB (l : List Oper) (n : Nat) (oth : List Nat) : Bool := oth.all fun i => decide (i < n) && ((l[i]?).map fun o => o.guard.isNone).getD false
theorem exB_of_exL {l : List Oper} {oth : List Nat} {full : List Bool} {g n : Nat} (ho : othB l n oth = true) (hs : Region.seqB .any l.toArray g n full.toArray = true) : ∀ (f : Nat) (S : List (List Bool)) (listed : List Bool), exL l oth full f S = true → listed ∈ S → exB .any l.toArray g n f listed.toArray = true
  | 0, S, listed, h, hm => by
    have e : listed = full := by
      simp only [exL, List.all_eq_true] at h
      simpa using h listed hm
    subst e
    exact hs
  | f + 1, S, listed, h, hm => by
    obtain ⟨h1, h2, h3⟩ := exL_spec h hm
    simp only [exB, rdyL_eq, Bool.and_eq_true, List.all_eq_true]
    refine ⟨by rw [h1]; rfl, fun i hi => ?_⟩
    obtain ⟨h4, h5⟩ := h2 i hi
    have ho' := ho
    simp only [othB, List.all_eq_true, Bool.and_eq_true] at ho'
    obtain ⟨h6, h7⟩ := ho' i h4
    have e : (listed.set i true).toArray = listed.toArray.setIfInBounds i true := by simp
    rw [← e]
    exact ⟨⟨h6, by simpa using h7⟩, exB_of_exL ho hs f _ _ h3 h5⟩
def permL (l : List Oper) (n f : Nat) (oth : List Nat) (full : List Bool) : List Nat → List Bool → Bool
  | [], listed => exL l oth full f [listed]
  | k :: qs, listed => decide (k < n) && (rdyL l listed).contains k && Region.free .any l.toArray listed.toArray k && permL l n f oth full qs (listed.set k true)
theorem permB_of_permL {l : List Oper} {oth : List Nat} {full : List Bool} {g n f : Nat} (ho : othB l n oth = true) (hs : Region.seqB .any l.toArray g n full.toArray = true) : ∀ (qs : List Nat) (listed : List Bool), permL l n f oth full qs listed = true → permB .any l.toArray g n f qs listed.toArray = true
  | [], listed, h => exB_of_exL ho hs f [listed] listed h (by simp)
  | k :: qs, listed, h => by
    simp only [permL, Bool.and_eq_true] at h
    simp only [permB, rdyL_eq, Bool.and_eq_true]
    have e : (listed.set k true).toArray = listed.toArray.setIfInBounds k true := by simp
    rw [← e]
    exact ⟨⟨⟨h.1.1.1, h.1.1.2⟩, h.1.2⟩, permB_of_permL ho hs qs _ h.2⟩
theorem permL_leaf {l : List Oper} {oth : List Nat} {full : List Bool} {n f : Nat} : ∀ (qs : List Nat) (listed : List Bool), permL l n f oth full qs listed = true → exL l oth full f [setAllL qs listed] = true
  | [], listed, h => h
  | k :: qs, listed, h => by
    simp only [permL, Bool.and_eq_true] at h
    exact permL_leaf qs _ h.2
def fullL (n m : Nat) : List Bool := List.replicate n true ++ List.replicate (m - n) false
def permLB (l : List Oper) (qs oth : List Nat) (n : Nat) : Bool :=
  Region.noSelect l.toArray && decide (n < l.toArray.size) && decide (qs.length + oth.length = n) && Region.sinkB .any l.toArray n && Region.chainB .any l.toArray n && othB l n oth && Region.seqB .any l.toArray (l.length - n) n (fullL n l.length).toArray && permL l n oth.length oth (fullL n l.length) qs (List.replicate l.length false)
theorem permAll_of {l : List Oper} {qs oth : List Nat} {n : Nat} (h : permLB l qs oth n = true) : permAll l.toArray qs oth.length n = true := by
  simp only [permLB, Bool.and_eq_true] at h
  obtain ⟨⟨⟨⟨⟨⟨⟨h1, h2⟩, h3⟩, h4⟩, h5⟩, h6⟩, h7⟩, h8⟩ := h
  simp only [permAll, Bool.and_eq_true]
  refine ⟨⟨⟨⟨⟨h1, h2⟩, h3⟩, h4⟩, h5⟩, ?_⟩
  have := permB_of_permL (g := l.length - n) h6 h7 qs _ h8
  have e : (List.replicate l.length false).toArray = Array.replicate l.toArray.size false := by simp
  have e2 : l.toArray.size - n = l.length - n := by simp
  rw [e2, ← e]
  exact this
/-- What is listed of those that an operation waits for. -/
def depsL (o : Oper) (listed : List Bool) : Bool := o.after.toList.all fun e => !Region.binds .any e || listed.getD e.on false
section
variable {P : Program} {T : Nat → Option TI} {n : Nat} {Q : Post} {F : Fm} {w : World} {C : World → Prop}
theorem rdyL_spec {l : List Oper} {listed : List Bool} {i : Nat} (h : i ∈ rdyL l listed) : listed.getD i true = false ∧ ∃ o, l[i]? = some o ∧ depsL o listed = true := by
  simp only [rdyL, List.mem_filter, Bool.and_eq_true, Bool.not_eq_true'] at h
  refine ⟨h.2.1, ?_⟩
  have h2 := h.2.2
  cases ho : l[i]? with
  | none => rw [ho] at h2; cases h2
  | some o => rw [ho] at h2; exact ⟨o, rfl, h2⟩
/-- One invariant for all orders. -/
theorem exF_inv {l : List Oper} {oth : List Nat} {full : List Bool} {T' : Fm → World → Prop} (J : List Bool → Fm → World → Prop)
    (step : ∀ listed F W i o, J listed F W → C W → i ∈ oth → listed.getD i true = false → l[i]? = some o → depsL o listed = true → wb P n o F W fun F2 w2 => C w2 ∧ ∀ W', Below w2.heap.size w2 W' → C W' → J (listed.set i true) F2 W')
    (fin : ∀ F W, J full F W → C W → T' F W) : ∀ (f : Nat) (S : List (List Bool)) (listed : List Bool) (F : Fm) (W : World), exL l oth full f S = true → listed ∈ S → J listed F W → C W → exF P n l C T' f listed F W
  | 0, S, listed, F, W, h, hm, hJ, hC => by
    have e : listed = full := by
      simp only [exL, List.all_eq_true] at h
      simpa using h listed hm
    subst e
    exact fin F W hJ hC
  | f + 1, S, listed, F, W, h, hm, hJ, hC => by
    obtain ⟨_, hn, hx⟩ := exL_spec h hm
    unfold exF
    have key : ∀ L : List Nat, (∀ i ∈ L, i ∈ rdyL l listed) → allL (fun i => opF P n l i F W fun F2 w2 => C w2 ∧ ∀ W', Below w2.heap.size w2 W' → C W' → exF P n l C T' f (listed.set i true) F2 W') L := by
      intro L
      induction L with
      | nil => exact fun _ => trivial
      | cons i L ih =>
        intro hL
        refine ⟨?_, ih fun j hj => hL j (by simp [hj])⟩
        have hi := hL i (by simp)
        obtain ⟨h1, h2⟩ := hn i hi
        obtain ⟨h3, o, h4, h5⟩ := rdyL_spec hi
        show opF P n l i F W _
        unfold opF
        rw [h4]
        have hw := step listed F W i o hJ hC h1 h3 h4 h5
        have mono : ∀ F2 w2, (C w2 ∧ ∀ W', Below w2.heap.size w2 W' → C W' → J (listed.set i true) F2 W') → (C w2 ∧ ∀ W', Below w2.heap.size w2 W' → C W' → exF P n l C T' f (listed.set i true) F2 W') := fun F2 w2 hh => ⟨hh.1, fun W' hW' hC' => exF_inv J step fin f _ _ _ _ hx h2 (hh.2 W' hW' hC') hC'⟩
        refine ⟨hw.dst, ?_⟩
        rcases hw.go with ⟨v, w', a, b⟩ | ⟨fn, args, a, b⟩ | ⟨w', a, b⟩
        · exact .inl ⟨v, w', a, mono _ _ b⟩
        · exact .inr (.inl ⟨fn, args, a, b.mono fun e w' ⟨v, e1, e2⟩ => ⟨v, e1, mono _ _ e2⟩⟩)
        · exact .inr (.inr ⟨w', a, mono _ _ b⟩)
    exact key _ fun i hi => hi
/-- A region that draws its order, by one invariant: qs read alone, oth are the others ahead of the tail, which begins at m. -/
theorem wc_qy {id : Nat} {l : List Oper} (qs oth : List Nat) (m : Nat) (hC : Stable C) (hT : TabOk P T) (hm : P.follows .mixedOrders = true) (hB : permLB l qs oth m = true) (hCw : C w)
    (h : runQ P T n l.toArray C (opsL l qs) (fun F' => ∀ w1, C w1 → Below w.heap.size w w1 → ∃ J : List Bool → Fm → World → Prop, J (setAllL qs (List.replicate l.length false)) F' w1 ∧
      (∀ listed F W i o, J listed F W → C W → i ∈ oth → listed.getD i true = false → l[i]? = some o → depsL o listed = true → wb P n o F W fun F2 w2 => C w2 ∧ ∀ W', Below w2.heap.size w2 W' → C W' → J (listed.set i true) F2 W') ∧
      ∀ F2 W, J (fullL m l.length) F2 W → C W → runG P T n l.toArray (l.drop m) Q F2 W) F) : wc P n (.region id l.toArray true) Q F w := by
  have hB' := hB
  simp only [permLB, Bool.and_eq_true] at hB'
  have hleaf := permL_leaf qs _ hB'.2
  have mono : ∀ a, wpQB P l.toArray C (fun a' => ∃ F', Fr a' n F' ∧ (∀ w1, C w1 → Below w.heap.size w w1 → ∃ J : List Bool → Fm → World → Prop, J (setAllL qs (List.replicate l.length false)) F' w1 ∧
      (∀ listed F W i o, J listed F W → C W → i ∈ oth → listed.getD i true = false → l[i]? = some o → depsL o listed = true → wb P n o F W fun F2 w2 => C w2 ∧ ∀ W', Below w2.heap.size w2 W' → C W' → J (listed.set i true) F2 W') ∧
      ∀ F2 W, J (fullL m l.length) F2 W → C W → runG P T n l.toArray (l.drop m) Q F2 W)) (opsL l qs) a → wpQB P l.toArray C (fun a' => ∃ F', Fr a' n F' ∧ (∀ w1, C w1 → Below w.heap.size w w1 → exF P n l C (fun F2 W => runG P T n l.toArray (l.drop m) Q F2 W) oth.length (setAllL qs (List.replicate l.length false)) F' w1)) (opsL l qs) a := fun a ha =>
    wpQB_mono (fun a' ⟨F', h1, h2⟩ => ⟨F', h1, fun w1 h3 h4 => let ⟨J, j1, j2, j3⟩ := h2 w1 h3 h4; exF_inv J j2 j3 _ _ _ _ _ hleaf (by simp) j1 h3⟩) ha
  unfold wc
  intro a ha
  have hq := mono a ((run_q hT h).go a ha)
  rw [← opsL_eq] at hq
  refine wp_region_perm qs oth.length m hC hm (permAll_of hB) hCw (wpQB_mono ?_ hq)
  rintro a' ⟨F', h2, h3⟩ w1 hw1 hb1
  have := exA_of (T' := wpList P l.toArray (lift n Q) (l.drop m)) (T := fun F2 W => runG P T n l.toArray (l.drop m) Q F2 W) (fun a F W ha h => ?_) _ _ _ _ _ h2 (h3 w1 hw1 hb1)
  · rw [← setAllL_eq] at this
    have e : (List.replicate l.length false).toArray = Array.replicate l.toArray.size false := by simp
    rwa [e] at this
  · have := run_l hT h
    unfold wl at this
    exact this _ ha
theorem xn_run4 (hT : TabOk P T) (e s : Nat) {o : Oper} {t : TypeId} {x ix : Operand} {a : Addr} {len cap : Nat} {ki : IntKind} {i : Nat} (hop : o.op = .indexAddr t x ix) (hx : ev F x = .slice (some a) len cap) (hi : ev F ix = .int ki i) (h1 : sliceT T t e s = true) (hl : i < len) : (execOp (ev F) o).run P w = .ok (.value (.pointer (some (a.add (i * s))))) w := by
  obtain ⟨hu, hs⟩ := sliceT_ok (w := w) hT h1
  have h0 : (0 : Int) ≤ (i : Int) := by omega
  have h2 : (i : Int) < (len : Int) := by omega
  simp [execOp, hop, hx, hi, Instr.indexAt, asIntOf, run_und hu, hs, h2]
  intro hc
  omega
/-- A store, in any order. -/
theorem wb_S (hT : TabOk P T) {o : Oper} {K : Fm → World → Prop} {t t' : TypeId} {x y : Operand} {i : TI} {g off : Nat} {cs : List Value} {v : Value} (hb : w.heap[g]? = some (.cells cs.toArray t' (0, 0))) (hop : o.op = .store t x y) (hx : ev F x = .pointer (some ⟨g, off, none⟩)) (hy : ev F y = v)
    (hi : T t = some i) (h1 : i.size = 1) (hv : v.oneCell' = true) (hoff : off < cs.length) (hd : o.dst = none)
    (k : ∀ w1, Put w w1 g (cs.set off v) t' → K F w1) : wb P n o F w K := by
  refine ⟨by rw [hd]; rfl, .inr (.inr ⟨w.setCell ⟨g, off, none⟩ v, ?_, by rw [hd]; exact k _ (put_setCell hb v)⟩)⟩
  have hs := run_size (w := w) hT hi
  rw [h1] at hs
  have hc : w.cell? ⟨g, off, none⟩ = some cs[off] := cell_blk hb (by simp [hoff])
  have hf : w.frozen? ⟨g, off, none⟩ = false := by simp [World.frozen?, hb]
  cases v <;> simp_all [Value.oneCell', execOp, Instr.storeAt, Instr.sureAddr, storeVar, Value.cells, storeCells, store, Sem.run, Addr.add] <;> rfl
theorem wb_Se (hT : TabOk P T) {o : Oper} {K : Fm → World → Prop} {t t' : TypeId} {x y : Operand} {i : TI} {g j : Nat} {cs : List Value} {v : Value} (hb : w.heap[g]? = some (.cells cs.toArray t' (0, 0))) (hop : o.op = .store t x y) (hx : ev F x = .pointer (some ((⟨g, 0, none⟩ : Addr).add j))) (hy : ev F y = v)
    (hi : T t = some i) (h1 : i.size = 1) (hv : v.oneCell' = true) (hoff : j < cs.length) (hd : o.dst = none)
    (k : ∀ w1, Put w w1 g (cs.set j v) t' → K F w1) : wb P n o F w K :=
  wb_S (off := j) hT hb hop (by rw [hx, add_zero]) hy hi h1 hv hoff hd k
end
end Go.Proofs.Ytomldckplkecbaa

/- copy; rows of rows of one's own. -/
namespace Go.Proofs.Ytomldckplkecbaa
open Go.RowKit
set_option linter.unusedVariables false
set_option linter.unusedSimpArgs false
section
variable {P : Program} {T : Nat → Option TI} {n : Nat} {Q : Post} {F : Fm} {w : World} {ops : Array Oper} {rest : List Oper} {o : Oper}
theorem put_setRow {g : Nat} {cur cs : List Value} {t : TypeId} (hb : w.heap[g]? = some (.cells cur.toArray t (0, 0))) : Put w (w.setRow g cs.toArray) g cs t :=
  ⟨by simp [World.setRow], setRow_heap w g cur.toArray _ t _ hb, ⟨rfl, rfl, rfl, by simp [World.setRow], fun k _ hk => setRow_other w g k _ (fun e => hk (by simp [e]))⟩⟩
/-- copy into a block of one's own, cell by cell. -/
theorem wl_copy (hT : TabOk P T) (e b : Nat) {t t2 t' : TypeId} {c : Call} {x y : Operand} {g dl dc sl sc : Nat} {a : Addr} {cur : List Value} (cs : List Value) (hb : w.heap[g]? = some (.cells cur.toArray t' (0, 0))) (hop : o.op = .call c) (hcal : c.callee = .builtin .copy) (hargs : c.args.toList = [x, y]) (htys : c.argTypes.toList = [t, t2])
    (hx : ev F x = .slice (some ⟨g, 0, none⟩) dl dc) (hy : ev F y = .slice (some a) sl sc) (h1 : appT T t e 1 b = true) (hg : o.guard = none) {d : Nat} (hd : o.dst = some d) (hn : Nat.blt d n = true)
    (hl : cs.length = min sl dl) (hsrc : ∀ j v, cs[j]? = some v → w.cell? (a.add j) = some v) (hfit : cs.length ≤ cur.length) (hone : ∀ v ∈ cs, v.oneCell' = true)
    (k : ∀ w1, Put w w1 g (cs ++ cur.drop cs.length) t' → wl P n ops rest Q (upd F d (goInt cs.length)) w1) : wl P n ops (o :: rest) Q F w := by
  obtain ⟨hu, j, z, hj, hz, hs, hby, hzs⟩ := appT_ok hT h1
  obtain ⟨callee, ⟨args⟩, ⟨tys⟩⟩ := c
  simp only at hcal hargs htys
  subst hcal hargs htys
  have hr := run_copy_row (P := P) w t t2 o.type e g 0 dl dc a sl sc cur.toArray t' cs hu (by rw [hj]; simp [hs]) hb hl hsrc (by simpa using hfit) hone
  refine wl_val hg hd hn ?_ (k _ (put_setRow (cs := cs ++ cur.drop cs.length) hb))
  simp at hr
  simp [execOp, hop, resolve, invoke, builtin, hx, hy, hr]
end
/-- A row of rows of numbers, all of the call's own: g holds the rows' values vs, bl are the blocks where they lie. -/
structure GMat (base g : Nat) (w : World) (vs : List Value) (M : List (List Int)) (bl : List Nat) : Prop where
  blk : w.heap[g]? = some (.cells vs.toArray 24 (0, 0))
  len : vs.length = M.length
  hg : base ≤ g
  gb : g ∉ bl
  lt : ∀ b ∈ bl, base ≤ b ∧ b < w.heap.size
  row : ∀ i, i < M.length → GInts base w vs[i]! M[i]! ∧ ∀ b, vs[i]!.ownBlock = some b → b ∈ bl
  ne : ∀ i j, i < M.length → j < M.length → i ≠ j → ∀ b, vs[i]!.ownBlock = some b → vs[j]!.ownBlock ≠ some b
section
variable {base g : Nat} {w w1 w2 : World} {vs : List Value} {M : List (List Int)} {bl : List Nat}
theorem GMat.stays (h : GMat base g w vs M bl) {row : Option Nat} (hg : w.grownBy w1 row) (h1 : ∀ b, row = some b → b ≠ g ∧ b ∉ bl) : GMat base g w1 vs M bl := by
  refine ⟨(hg.block g (blk_lt h.blk) (fun e => (h1 g e.symm).1 rfl)).trans h.blk, h.len, h.hg, h.gb, fun b hb => ⟨(h.lt b hb).1, Nat.lt_of_lt_of_le (h.lt b hb).2 hg.size⟩, fun i hi => ⟨(h.row i hi).1.stays row hg (by simp) ?_, (h.row i hi).2⟩, h.ne⟩
  cases ho : vs[i]!.ownBlock with
  | none => exact .inl rfl
  | some b => exact .inr fun e => (h1 b e.symm).2 ((h.row i hi).2 b ho)
theorem GMat.below (h : GMat base g w vs M bl) (hb : Below w.heap.size w w1) : GMat base g w1 vs M bl := h.stays (grown_of (row := none) hb) nofun
theorem get_set {α : Type} [Inhabited α] (xs : List α) (i j : Nat) (x : α) (hj : j < xs.length) : (xs.set i x)[j]! = if i = j then x else xs[j]! := by
  rw [getElem!_pos _ j (by simpa using hj), List.getElem_set]
  split
  · rfl
  · rw [getElem!_pos xs j hj]
theorem GMat.app (h : GMat base g w vs M bl) {i : Nat} (hi : i < M.length) {v' : Value} {x : Int} (hv : GInts base w1 v' (M[i]! ++ [x])) (hgr : w.grownBy w1 vs[i]!.ownBlock)
    (hob : v'.ownBlock = vs[i]!.ownBlock ∨ ∃ b, v'.ownBlock = some b ∧ w.heap.size ≤ b) (hp : Put w1 w2 g (vs.set i v') 24) : GMat base g w2 (vs.set i v') (M.set i (M[i]! ++ [x])) (bl ++ v'.ownBlock.toList) := by
  have hgl := blk_lt h.blk
  have hnew : ∀ b, v'.ownBlock = some b → b ∈ bl ∨ w.heap.size ≤ b := fun b e => by
    rcases hob with e1 | ⟨b', e1, e2⟩
    · exact .inl ((h.row i hi).2 b (by rw [← e1]; exact e))
    · rw [e] at e1; cases e1; exact .inr e2
  have hng : ∀ b, v'.ownBlock = some b → b ≠ g := fun b e e' => by
    subst e'
    rcases hnew b e with h1 | h1
    · exact h.gb h1
    · omega
  have hgi : ∀ b, vs[i]!.ownBlock = some b → b ≠ g := fun b e e' => h.gb (e' ▸ (h.row i hi).2 b e)
  refine ⟨hp.blk, by simp [h.len], h.hg, ?_, ?_, ?_, ?_⟩
  · intro hm
    rcases List.mem_append.1 hm with hm | hm
    · exact h.gb hm
    · exact hng g (mem_own hm) rfl
  · intro b hb
    rcases List.mem_append.1 hb with hb | hb
    · exact ⟨(h.lt b hb).1, by rw [hp.size]; exact Nat.lt_of_lt_of_le (h.lt b hb).2 hgr.size⟩
    · rw [hp.size]; exact hv.olt b (mem_own hb)
  · intro j hj
    have hj' : j < M.length := by simpa using hj
    rw [get_set _ _ _ _ (by rw [h.len]; exact hj'), get_set _ _ _ _ hj']
    by_cases e : i = j
    · rw [if_pos e, if_pos e]
      exact ⟨hv.other hp.grown (by simp) (fun b hb => hng b hb), fun b hb => List.mem_append_right _ (by rw [hb]; simp)⟩
    · rw [if_neg e, if_neg e]
      refine ⟨((h.row j hj').1.stays _ hgr (by simp) ?_).other hp.grown (by simp) (fun b hb e' => h.gb (e' ▸ (h.row j hj').2 b hb)), fun b hb => List.mem_append_left _ ((h.row j hj').2 b hb)⟩
      cases ho : vs[j]!.ownBlock with
      | none => exact .inl rfl
      | some b => exact .inr fun e' => h.ne j i hj' hi (fun q => e q.symm) b ho e'.symm
  · intro j k hj hk hjk b hb
    have hj' : j < M.length := by simpa using hj
    have hk' : k < M.length := by simpa using hk
    rw [get_set _ _ _ _ (by rw [h.len]; exact hj')] at hb
    rw [get_set _ _ _ _ (by rw [h.len]; exact hk')]
    have old : ∀ l, l < M.length → vs[l]!.ownBlock = some b → b < w.heap.size := fun l hl e => (h.lt b ((h.row l hl).2 b e)).2
    by_cases e : i = j
    · rw [if_pos e] at hb
      subst e
      rw [if_neg hjk]
      intro e2
      rcases hob with e1 | ⟨b', e1, e3⟩
      · exact h.ne i k hi hk' hjk b (by rw [← e1]; exact hb) e2
      · rw [hb] at e1; cases e1
        have := old k hk' e2
        omega
    · rw [if_neg e] at hb
      by_cases e5 : i = k
      · subst e5
        rw [if_pos rfl]
        intro e2
        rcases hob with e1 | ⟨b', e1, e3⟩
        · exact h.ne j i hj' hi hjk b hb (by rw [← e1]; exact e2)
        · rw [e2] at e1; cases e1
          have := old j hj' hb
          omega
      · rw [if_neg e5]
        exact h.ne j k hj' hk' hjk b hb
theorem GMat.init {n : Nat} (hb : w.heap[g]? = some (.cells (List.replicate n [Value.slice none 0 0]).flatten.toArray 24 (0, 0))) (hg : base ≤ g) : GMat base g w (List.replicate n (.slice none 0 0)) (List.replicate n []) [] := by
  have e : (List.replicate n [Value.slice none 0 0]).flatten = List.replicate n (.slice none 0 0) := by simp
  rw [e] at hb
  have hv : ∀ i, i < n → (List.replicate n (Value.slice none 0 0))[i]! = .slice none 0 0 := fun i hi => by rw [getElem!_pos _ i (by simpa using hi)]; simp
  refine ⟨hb, by simp, hg, by simp, by simp, fun i hi => ?_, fun i j hi hj _ b hb => ?_⟩
  · have hi' : i < n := by simpa using hi
    rw [hv i hi', getElem!_pos _ i hi]
    simp only [List.getElem_replicate]
    exact ⟨GRow.nil .., by simp [Value.ownBlock]⟩
  · rw [hv i (by simpa using hi)] at hb
    cases hb
theorem GMat.rowAt (h : GMat base g w vs M bl) {i : Nat} (hi : i < M.length) : ∃ A c, vs[i]! = .slice A M[i]!.length c ∧ M[i]!.length ≤ c ∧ RI w A M[i]! := (h.row i hi).1.row
theorem GMat.cell (h : GMat base g w vs M bl) {i : Nat} (hi : i < M.length) : w.cell? ((⟨g, 0, none⟩ : Addr).add (i * 1)) = some vs[i]! := by
  rw [Nat.mul_one, add_zero]
  have hi' : i < vs.length := by rw [h.len]; exact hi
  exact cell_blk h.blk (by rw [getElem!_pos vs i hi']; simp [hi'])
theorem GMat.rows (h : GMat base g w vs M bl) (hm : M.length ≤ 9223372036854775807) : RRows w (some ⟨g, 0, none⟩) M := by
  refine row_of_blk h.blk ⟨by rw [h.len]; simp, fun i hi => ?_⟩ hm
  obtain ⟨A, c, e1, e2, e3⟩ := h.rowAt hi
  have hi' : i < vs.length := by rw [h.len]; exact hi
  have e : (vs.drop (i * 1)).take 1 = [vs[i]!] := by
    rw [Nat.mul_one, List.drop_eq_getElem_cons hi', getElem!_pos vs i hi']
    rfl
  rw [e, e1]
  exact ⟨A, c, rfl, e2, e3⟩
end
theorem rowB_of_blk {w : World} {g : Nat} {xs : List Bool} {t : TypeId} (h : w.heap[g]? = some (.cells (vb xs).toArray t (0, 0))) (hm : xs.length ≤ 9223372036854775807) : RowR 1 dB w (some ⟨g, 0, none⟩) xs := by
  refine row_of_blk h ⟨by simp [vb], fun i hi => ?_⟩ hm
  have hi' : i < (vb xs).length := by simpa [vb] using hi
  have e : ((vb xs).drop (i * 1)).take 1 = [.bool xs[i]!] := by
    rw [Nat.mul_one, List.drop_eq_getElem_cons hi', getElem!_pos xs i hi]
    simp [vb]
  rw [e]
  rfl
end Go.Proofs.Ytomldckplkecbaa

/- A row of numbers whose front is taken away; facts that lie in the blocks of one owner. -/
namespace Go.Proofs.Ytomldckplkecbaa
open Go.RowKit
set_option linter.unusedVariables false
set_option linter.unusedSimpArgs false
def vi (xs : List Nat) : List Value := xs.map fun (x : Nat) => Value.int .i64 (x : Int)
theorem vi_len (xs : List Nat) : (vi xs).length = xs.length := by simp [vi]
theorem vi_app (xs ys : List Nat) : vi (xs ++ ys) = vi xs ++ vi ys := by simp [vi]
theorem vi_cons (x : Nat) (ys : List Nat) : vi (x :: ys) = .int .i64 (x : Int) :: vi ys := rfl
/-- A row of numbers of the call's own, wherever in its block it begins. -/
structure QRow (base : Nat) (V : Value) (xs : List Nat) (fp : List Nat) (w : World) : Prop where
  ex : (xs = [] ∧ fp = [] ∧ ∃ A, V = .slice A 0 0) ∨ ∃ (g : Nat) (pre post : List Value), fp = [g] ∧ V = .slice (some ⟨g, pre.length, none⟩) xs.length (xs.length + post.length) ∧ base ≤ g ∧
    w.heap[g]? = some (.cells (pre ++ vi xs ++ post).toArray 3 (0, 0)) ∧ xs.length + post.length ≤ 9223372036854775807
section
variable {base : Nat} {V : Value} {xs r fp : List Nat} {w w1 : World} {x : Nat}
theorem QRow.keep (h : QRow base V xs fp w) (hb : ∀ b ∈ fp, w1.heap[b]? = w.heap[b]?) : QRow base V xs fp w1 := by
  rcases h.ex with h | ⟨g, pre, post, h1, h2, h3, h4, h5⟩
  · exact ⟨.inl h⟩
  · exact ⟨.inr ⟨g, pre, post, h1, h2, h3, (hb g (by simp [h1])).trans h4, h5⟩⟩
theorem QRow.lt (h : QRow base V xs fp w) : ∀ b ∈ fp, base ≤ b ∧ b < w.heap.size := by
  rcases h.ex with ⟨_, rfl, _⟩ | ⟨g, pre, post, rfl, h2, h3, h4, h5⟩
  · simp
  · intro b hb; simp at hb; subst hb; exact ⟨h3, blk_lt h4⟩
theorem QRow.form (h : QRow base V xs fp w) : ∃ A c, V = .slice A xs.length c ∧ xs.length ≤ c := by
  rcases h.ex with ⟨rfl, _, A, rfl⟩ | ⟨g, pre, post, h1, h2, h3, h4, h5⟩
  · exact ⟨A, 0, rfl, by simp⟩
  · exact ⟨_, _, h2, by omega⟩
theorem QRow.nil (A : Option Addr) : QRow base (.slice A 0 0) [] [] w := ⟨.inl ⟨rfl, rfl, A, rfl⟩⟩
theorem QRow.head {A : Option Addr} {l c : Nat} (h : QRow base (.slice A l c) (x :: r) fp w) : ∃ ad, A = some ad ∧ w.cell? (ad.add (0 * 1)) = some (.int .i64 (x : Int)) := by
  rcases h.ex with ⟨h1, _⟩ | ⟨g, pre, post, h1, h2, h3, h4, h5⟩
  · cases h1
  · injection h2 with h2 _ _
    subst h2
    refine ⟨_, rfl, ?_⟩
    show w.cell? ⟨g, pre.length, none⟩ = _
    refine cell_blk h4 ?_
    simp [vi_cons]
theorem QRow.tail {A : Option Addr} {l c : Nat} (h : QRow base (.slice A l c) (x :: r) fp w) : ∃ fp', QRow base (.slice (cutA A 1 c 1) r.length (c - 1)) r fp' w ∧ ∀ b ∈ fp', b ∈ fp := by
  rcases h.ex with ⟨h1, _⟩ | ⟨g, pre, post, h1, h2, h3, h4, h5⟩
  · cases h1
  · injection h2 with h2 h6 h7
    subst h2 h7
    by_cases h0 : (x :: r).length + post.length = 1
    · have hr : r = [] := by cases r with | nil => rfl | cons => simp at h0; omega
      subst hr
      have hp : post = [] := by cases post with | nil => rfl | cons => simp at h0
      subst hp
      exact ⟨[], ⟨.inl ⟨rfl, rfl, _, rfl⟩⟩, by simp⟩
    · refine ⟨[g], ⟨.inr ⟨g, pre ++ [.int .i64 (x : Int)], post, rfl, ?_, h3, ?_, ?_⟩⟩, by simp [h1]⟩
      · have hlt : 1 < (x :: r).length + post.length := by simp at h0 ⊢; omega
        rw [cut_in hlt]
        simp
      · rw [h4]; simp [vi_cons]
      · simp at h5 ⊢; omega
end
section
variable {P : Program} {T : Nat → Option TI} {n : Nat} {Q : Post} {F : Fm} {w : World} {ops : Array Oper} {rest : List Oper} {o : Oper}
theorem own_q {base b' : Nat} {V : Value} {xs : List Nat} {m : Nat} (h : w.ownsRow b' 3 1 V m (vi xs)) (hb : base ≤ b') (hm : m = xs.length) : QRow base V xs V.ownBlock.toList w := by
  subst hm
  rcases h.2 with ⟨rfl, h0⟩ | ⟨g, cap, cur, rfl, hbg, hg, hnc, hcm, hcs, htake⟩
  · have : xs = [] := List.eq_nil_of_length_eq_zero h0
    subst this
    exact ⟨.inl ⟨rfl, rfl, _, rfl⟩⟩
  · refine ⟨.inr ⟨g, [], cur.toList.drop xs.length, rfl, ?_, by omega, ?_, ?_⟩⟩
    · have : xs.length + (cur.toList.drop xs.length).length = cap := by simp; omega
      rw [this]; rfl
    · rw [hg]
      have e : vi xs = cur.toList.take xs.length := by rw [Nat.mul_one] at htake; exact htake.symm
      rw [List.nil_append, e, List.take_append_drop]
    · simp only [maxLen] at hcm
      simp; omega
/-- append(q, v). -/
theorem qap_run (hT : TabOk P T) (hi8 : appT T 24 3 1 8 = true) {base : Nat} {V : Value} {xs fp : List Nat} {v : Nat} {c : Call} {x y : Operand} {g1 cc : Nat} {t' : TypeId}
    (h : QRow base V xs fp w) (hb1 : w.heap[g1]? = some (.cells #[.int .i64 (v : Int)] t' (0, 0))) (hop : o.op = .call c) (hcal : c.callee = .builtin .append) (hargs : c.args.toList = [x, y]) (htys : c.argTypes.toList = [24, 24])
    (hx : ev F x = V) (hy : ev F y = .slice (some ⟨g1, 0, none⟩) 1 cc) (hl : xs.length < 1099511627776) (hbase : base ≤ w.heap.size) :
    ∃ V' w1 fp', (execOp (ev F) o).run P w = .ok (.value V') w1 ∧ QRow base V' (xs ++ [v]) fp' w1 ∧ Kept fp w w1 ∧ ∀ b ∈ fp', b ∈ fp ∨ w.heap.size ≤ b := by
  obtain ⟨hu, j, z, hj, hz, hs, hby, hzs⟩ := appT_ok hT hi8
  obtain ⟨callee, ⟨args⟩, ⟨tys⟩⟩ := c
  simp only at hcal hargs htys
  subst hcal hargs htys
  have hnews : ∀ k u, ([Value.int .i64 (v : Int)] : List Value)[k]? = some u → w.cell? ((⟨g1, 0, none⟩ : Addr).add k) = some u := fun k u hu => by
    rw [add_zero]
    refine cell_blk hb1 ?_
    simpa using hu
  have hone : ∀ u ∈ ([Value.int .i64 (v : Int)] : List Value), u.oneCell' = true := by simp [Value.oneCell']
  have hvi : vi xs ++ [Value.int .i64 (v : Int)] = vi (xs ++ [v]) := by simp [vi]
  have grow : ∀ (b : Addr) (cap : Nat), V = .slice (some b) xs.length cap → cap < xs.length + 1 → (∀ k u, (vi xs)[k]? = some u → w.cell? (b.add k) = some u) → ∃ V' w1 fp', (execOp (ev F) o).run P w = .ok (.value V') w1 ∧ QRow base V' (xs ++ [v]) fp' w1 ∧ Kept fp w w1 ∧ ∀ b ∈ fp', b ∈ fp ∨ w.heap.size ≤ b := fun b cap hV hc holds => by
    obtain ⟨V', w1, hr, ho, hg⟩ := run_append_arg_grows (P := P) w 24 o.type 3 j z 1 8 hu hj hz hs hby hzs (by omega) b xs.length cap (vi xs) (by simp [vi_len]) holds ⟨g1, 0, none⟩ 1 cc [Value.int .i64 (v : Int)] (by simp) hnews hc (by simp only [maxLen]; omega) (by omega)
    rw [hvi] at ho
    refine ⟨V', w1, V'.ownBlock.toList, ?_, own_q ho hbase (by simp), Kept.grown (row := none) (Kept.refl _ _) hg nofun, fun b hb => .inr ?_⟩
    · rw [hV] at hx
      simp [execOp, hop, resolve, invoke, builtin, hx, hy, hr]
    · exact (ho.lt b (mem_own hb)).1
  rcases h.ex with ⟨rfl, rfl, A, hV⟩ | ⟨g, pre, post, hf, hV, h3, h4, h5⟩
  · cases A with
    | some b => exact grow b 0 hV (by simp) (by simp [vi])
    | none =>
      obtain ⟨V', w1, hr, ho, hg, _, hob⟩ := run_append_own_at (P := P) w base 24 o.type 3 j z 1 8 hu hj hz hs hby hzs (by omega) (.slice none 0 0) 0 [] (own_nil ..) ⟨g1, 0, none⟩ 1 cc _ (by simp) hnews hone (by simp only [maxLen]; omega) (by omega) hbase
      have e : ([] : List Value) ++ [Value.int .i64 (v : Int)] = vi ([] ++ [v]) := by simp [vi]
      rw [e] at ho
      refine ⟨V', w1, V'.ownBlock.toList, ?_, own_q ho (Nat.le_refl _) (by simp), Kept.grown (row := none) (Kept.refl _ _) hg nofun, fun b hb => .inr ?_⟩
      · rw [hV] at hx
        simp [execOp, hop, resolve, invoke, builtin, hx, hy, hr]
      · have hb' := mem_own hb
        rcases hob with e | e
        · rw [e] at hb'; cases hb'
        · rw [e] at hb'; cases hb'; exact Nat.le_refl _
  · by_cases hp : post = []
    · refine grow _ _ hV (by simp [hp]) fun k u hu => ?_
      rw [Addr.add_lit]
      refine cell_blk h4 ?_
      have hk := (List.getElem?_eq_some_iff.1 hu).1
      simp only [List.getElem?_toArray]
      rw [List.append_assoc, List.getElem?_append_right (by omega), Nat.add_sub_cancel_left, List.getElem?_append_left hk]
      exact hu
    · obtain ⟨p0, pr, rfl⟩ : ∃ p0 pr, post = p0 :: pr := by cases post with | nil => exact absurd rfl hp | cons a l => exact ⟨a, l, rfl⟩
      have hf' := run_firstCells_some (P := P) w j.size 1 ⟨g1, 0, none⟩ 1 cc [Value.int .i64 (v : Int)] (by simp [hs]) hnews
      have hst := run_storeCells_at P g (pre.length + xs.length) 3 [Value.int .i64 (v : Int)] 0 _ w h4 (by simp [vi_len]; omega) hone
      have hroom : xs.length + 1 ≤ xs.length + (p0 :: pr).length := by simp
      have hr : (Builtin.append_ #[24, 24] o.type #[.slice (some ⟨g, pre.length, none⟩) xs.length (xs.length + (p0 :: pr).length), .slice (some ⟨g1, 0, none⟩) 1 cc]).run P w = .ok (.slice (some ⟨g, pre.length, none⟩) (xs.length + 1) (xs.length + (p0 :: pr).length)) (w.setRow g (pre ++ vi (xs ++ [v]) ++ pr).toArray) := by
        have e : (((pre ++ vi xs ++ p0 :: pr).toArray.toList.take (pre.length + xs.length + 0)) ++ [Value.int .i64 (v : Int)] ++ (pre ++ vi xs ++ p0 :: pr).toArray.toList.drop (pre.length + xs.length + 0 + [Value.int .i64 (v : Int)].length)) = pre ++ vi (xs ++ [v]) ++ pr := by
          have hl1 : (pre ++ vi xs).length = pre.length + xs.length := by simp [vi_len]
          have e1 : pre ++ vi xs ++ p0 :: pr = (pre ++ vi xs) ++ ([p0] ++ pr) := by simp
          rw [e1]
          simp only [Nat.add_zero]
          rw [← hl1, List.take_left]
          have e2 : (pre ++ vi xs).length + [Value.int .i64 (v : Int)].length = ((pre ++ vi xs) ++ [p0]).length := by simp; omega
          rw [e2, ← List.append_assoc (pre ++ vi xs), List.drop_left, ← hvi]
          simp
        rw [e] at hst
        rw [hs] at hf'
        simp [Builtin.append_, run_underlying hu, sizeOf, typeInfo, hj, hs, Builtin.lenOf, hf', Addr.add_lit, hst]
      have hpt := put_setRow (cs := pre ++ vi (xs ++ [v]) ++ pr) h4
      have hq : QRow base (.slice (some ⟨g, pre.length, none⟩) (xs.length + 1) (xs.length + (p0 :: pr).length)) (xs ++ [v]) [g] (w.setRow g (pre ++ vi (xs ++ [v]) ++ pr).toArray) := ⟨.inr ⟨g, pre, pr, rfl, by simp; omega, h3, hpt.blk, by simp at h5 ⊢; omega⟩⟩
      have hkp : Kept fp w (w.setRow g (pre ++ vi (xs ++ [v]) ++ pr).toArray) := Kept.put (Kept.refl _ _) hpt (.inl (by simp [hf]))
      refine ⟨_, _, [g], ?_, hq, hkp, fun b hb => .inl (by rw [hf]; exact hb)⟩
      rw [hV] at hx
      simp only [List.length_cons, List.append_assoc] at hr hx
      simp [execOp, hop, resolve, invoke, builtin, hx, hy, hr]
end
/-! ### owners -/
/-- A fact that lies in blocks of owner k. -/
def AtF (O : Nat → Nat) (k : Nat) (w : World) (P : List Nat → World → Prop) : Prop := ∃ fp : List Nat, (∀ b ∈ fp, O b = k ∧ b < w.heap.size) ∧ ∀ w', (∀ b ∈ fp, w'.heap[b]? = w.heap[b]?) → P fp w'
def newO (O : Nat → Nat) (s k : Nat) : Nat → Nat := fun b => if b < s then O b else k
theorem newO_old {O : Nat → Nat} {s k b : Nat} (h : b < s) : newO O s k b = O b := if_pos h
theorem newO_new {O : Nat → Nat} {s k b : Nat} (h : s ≤ b) : newO O s k b = k := if_neg (by omega)
section
variable {O O1 O2 : Nat → Nat} {k j : Nat} {w w1 w2 : World} {P Q : List Nat → World → Prop} {f : Nat → List Nat → World → Prop}
theorem AtF.now (h : AtF O k w P) : ∃ fp, P fp w ∧ ∀ b ∈ fp, O b = k ∧ b < w.heap.size := let ⟨fp, h1, h2⟩ := h; ⟨fp, h2 w fun _ _ => rfl, h1⟩
theorem AtF.imp (h : AtF O k w P) (hi : ∀ fp w, P fp w → Q fp w) : AtF O k w Q := let ⟨fp, h1, h2⟩ := h; ⟨fp, h1, fun w' hw => hi _ _ (h2 w' hw)⟩
theorem AtF.keep (h : AtF O k w P) (hO : ∀ b, b < w.heap.size → O1 b = O b) (hs : w.heap.size ≤ w1.heap.size) (hb : ∀ b, b < w.heap.size → O b = k → w1.heap[b]? = w.heap[b]?) : AtF O1 k w1 P := by
  obtain ⟨fp, h1, h2⟩ := h
  exact ⟨fp, fun b hb' => ⟨by rw [hO b (h1 b hb').2]; exact (h1 b hb').1, Nat.lt_of_lt_of_le (h1 b hb').2 hs⟩, fun w' hw => h2 w' fun b hb' => (hw b hb').trans (hb b (h1 b hb').2 (h1 b hb').1)⟩
theorem AtF.tr : AtF O k w fun _ _ => True := ⟨[], by simp, fun _ _ => trivial⟩
/-- All facts, each by its owner. -/
def All (O : Nat → Nat) (w : World) (f : Nat → List Nat → World → Prop) : Prop := ∀ k, AtF O k w (f k)
def updF (f : Nat → List Nat → World → Prop) (k : Nat) (P : List Nat → World → Prop) : Nat → List Nat → World → Prop := fun j => if j = k then P else f j
/-- What blocks of other owners than 50 to 99 come to; the owners stay. -/
structure Stp (O O1 : Nat → Nat) (w w1 : World) : Prop where
  os : w1.os = w.os
  tape : w1.tape = w.tape
  output : w1.output = w.output
  size : w.heap.size ≤ w1.heap.size
  own : ∀ b, b < w.heap.size → O1 b = O b
  fr : ∀ b, b < w.heap.size → 50 ≤ O b → O b < 100 → w1.heap[b]? = w.heap[b]?
theorem Stp.refl (O : Nat → Nat) (w : World) : Stp O O w w := ⟨rfl, rfl, rfl, Nat.le_refl _, fun _ _ => rfl, fun _ _ _ _ => rfl⟩
theorem Stp.trans (h : Stp O O1 w w1) (k : Stp O1 O2 w1 w2) : Stp O O2 w w2 :=
  ⟨k.os.trans h.os, k.tape.trans h.tape, k.output.trans h.output, Nat.le_trans h.size k.size, fun b hb => (k.own b (Nat.lt_of_lt_of_le hb h.size)).trans (h.own b hb),
   fun b hb h1 h2 => (k.fr b (Nat.lt_of_lt_of_le hb h.size) (by rw [h.own b hb]; exact h1) (by rw [h.own b hb]; exact h2)).trans (h.fr b hb h1 h2)⟩
theorem Stp.up (hb : Below w.heap.size w w1) (k : Nat) : Stp O (newO O w.heap.size k) w w1 := ⟨hb.os, hb.tape, hb.output, hb.size, fun _ h => newO_old h, fun b h _ _ => hb.block b h⟩
theorem Stp.kept {rb : List Nat} (hk : Kept rb w w1) (hr : ∀ b ∈ rb, b < w.heap.size → O b = k) (h5 : k < 50 ∨ 100 ≤ k) (k' : Nat) : Stp O (newO O w.heap.size k') w w1 :=
  ⟨hk.os, hk.tape, hk.output, hk.size, fun _ h => newO_old h, fun b h h1 h2 => hk.block b h fun hm => by have := hr b hm h; omega⟩
theorem Stp.below {base : Nat} (h : Stp O O1 w w1) (hl : ∀ b, b < base → O b = 99) (hb : base ≤ w.heap.size) : Below base w w1 :=
  ⟨h.os, h.tape, h.output, h.size, fun b hlt => h.fr b (by omega) (by rw [hl b hlt]; omega) (by rw [hl b hlt]; omega)⟩
theorem Stp.low {base : Nat} (h : Stp O O1 w w1) (hl : ∀ b, b < base → O b = 99) (hb : base ≤ w.heap.size) : ∀ b, b < base → O1 b = 99 := fun b hlt => by rw [h.own b (by omega)]; exact hl b hlt
theorem AtF.stp (h : AtF O k w P) (hs : Stp O O1 w w1) (h1 : 50 ≤ k) (h2 : k < 100) : AtF O1 k w1 P := h.keep hs.own hs.size fun b hb e => hs.fr b hb (by omega) (by omega)
theorem All.up (h : All O w f) (hb : Below w.heap.size w w1) (k : Nat) : All (newO O w.heap.size k) w1 f := fun j => (h j).keep (fun _ => newO_old) hb.size fun b hlt _ => hb.block b hlt
/-- Owner k's fact becomes P. -/
theorem All.put {rb fp : List Nat} (h : All O w f) (hk : Kept rb w w1) (hr : ∀ b ∈ rb, b < w.heap.size → O b = k) (hfp : ∀ b ∈ fp, (b < w.heap.size → O b = k) ∧ b < w1.heap.size) (hP : ∀ w', (∀ b ∈ fp, w'.heap[b]? = w1.heap[b]?) → P fp w') : All (newO O w.heap.size k) w1 (updF f k P) := fun j => by
  unfold updF
  split
  · rename_i e
    subst e
    refine ⟨fp, fun b hb => ⟨?_, (hfp b hb).2⟩, hP⟩
    by_cases hlt : b < w.heap.size
    · rw [newO_old hlt]; exact (hfp b hb).1 hlt
    · rw [newO_new (by omega)]
  · rename_i e
    exact (h j).keep (fun _ => newO_old) hk.size fun b hb ho => hk.block b hb fun hm => e (by rw [← ho]; exact hr b hm hb)
theorem All.imp {f' : Nat → List Nat → World → Prop} (h : All O w f) (hi : ∀ j fp w, f j fp w → f' j fp w) : All O w f' := fun j => (h j).imp (hi j)
end
end Go.Proofs.Ytomldckplkecbaa

/- Knots: the search's state in memory. -/
namespace Go.Proofs.Ytomldckplkecbaa
open Go.RowKit
set_option linter.unusedVariables false
set_option linter.unusedSimpArgs false
def fI (n : Nat) (f : Nat → Nat) : List Value := (List.range n).map fun v => Value.int .i64 (f v : Int)
def fB (n : Nat) (f : Nat → Bool) : List Value := (List.range n).map fun v => Value.bool (f v)
theorem fI_len (n : Nat) (f : Nat → Nat) : (fI n f).length = n := by simp [fI]
theorem fB_len (n : Nat) (f : Nat → Bool) : (fB n f).length = n := by simp [fB]
theorem fI_get {n v : Nat} {f : Nat → Nat} (h : v < n) : (fI n f)[v]? = some (.int .i64 (f v : Int)) := by simp [fI, h]
theorem fB_get {n v : Nat} {f : Nat → Bool} (h : v < n) : (fB n f)[v]? = some (.bool (f v)) := by simp [fB, h]
theorem range_setF {α : Type} (h : Nat → α) (n v : Nat) (x : α) : ((List.range n).map h).set v x = (List.range n).map (setF h v x) := by
  apply List.ext_getElem?
  intro i
  rw [List.getElem?_set]
  by_cases e : v = i
  · subst e
    by_cases hv : v < n
    · simp [hv, setF]
    · simp [hv]
  · by_cases hi : i < n
    · rw [if_neg e]
      have : i ≠ v := fun e2 => e e2.symm
      simp [hi, setF, this]
    · rw [if_neg e]
      simp [hi]
theorem fI_set (n : Nat) (f : Nat → Nat) (v x : Nat) : (fI n f).set v (.int .i64 (x : Int)) = fI n (setF f v x) := by
  unfold fI
  rw [range_setF]
  congr 1
  funext j
  unfold setF
  split <;> rfl
theorem fB_set (n : Nat) (f : Nat → Bool) (v : Nat) (x : Bool) : (fB n f).set v (.bool x) = fB n (setF f v x) := by
  unfold fB
  rw [range_setF]
  congr 1
  funext j
  unfold setF
  split <;> rfl
/-- Where the search's things lie. -/
structure KC where
  n : Nat
  A : Option Addr
  c : Nat
  gT : Nat
  gi : Nat
  gl : Nat
  gn : Nat
  go : Nat
  base : Nat
def kbox (c : KC) (s : TS) (vk vn : Value) : List Value :=
  [.slice c.A c.n c.c, .slice (some ⟨c.gi, 0, none⟩) c.n c.n, .slice (some ⟨c.gl, 0, none⟩) c.n c.n, .slice (some ⟨c.gn, 0, none⟩) c.n c.n, vk, .slice (some ⟨c.go, 0, none⟩) c.n c.n, .int .i64 (s.cnt : Int), vn]
def knI (kn : List (List Nat)) : List (List Int) := kn.map fun l => l.map fun (x : Nat) => (x : Int)
/-- Each owner's fact. 0 the search itself; 1 index; 2 low; 3 on; 4 of; 5 the stack; 6 the knots. -/
def kcomp (c : KC) (s : TS) (vk vn : Value) : Nat → List Nat → World → Prop
  | 0 => fun fp w => fp = [c.gT] ∧ w.heap[c.gT]? = some (.cells (kbox c s vk vn).toArray 58 (0, 0))
  | 1 => fun fp w => fp = [c.gi] ∧ w.heap[c.gi]? = some (.cells (fI c.n s.idx).toArray 3 (0, 0))
  | 2 => fun fp w => fp = [c.gl] ∧ w.heap[c.gl]? = some (.cells (fI c.n s.low).toArray 3 (0, 0))
  | 3 => fun fp w => fp = [c.gn] ∧ w.heap[c.gn]? = some (.cells (fB c.n s.on).toArray 4 (0, 0))
  | 4 => fun fp w => fp = [c.go] ∧ w.heap[c.go]? = some (.cells (fI c.n s.of).toArray 3 (0, 0))
  | 5 => fun fp w => fp = vk.ownBlock.toList ∧ w.ownsRow c.base 3 1 vk s.stk.length (vi s.stk)
  | 6 => fun fp w => ∃ bs, fp = vn.ownBlock.toList ++ bs ∧ GRow 1 dInts 24 c.base w vn (knI s.kn) bs
  | _ => fun _ _ => True
structure KS (c : KC) (O : Nat → Nat) (w : World) (s : TS) (vk vn : Value) : Prop where
  all : All O w (kcomp c s vk vn)
  low : ∀ b, b < c.base → O b = 99
  sz : c.base ≤ w.heap.size
section
variable {c : KC} {O : Nat → Nat} {w w1 : World} {s : TS} {vk vn : Value}
theorem KS.up (h : KS c O w s vk vn) (hb : Below w.heap.size w w1) (k : Nat) : KS c (newO O w.heap.size k) w1 s vk vn :=
  ⟨h.all.up hb k, fun b hlt => by rw [newO_old (by have := h.sz; omega)]; exact h.low b hlt, Nat.le_trans h.sz hb.size⟩
theorem KS.box (h : KS c O w s vk vn) : w.heap[c.gT]? = some (.cells (kbox c s vk vn).toArray 58 (0, 0)) ∧ O c.gT = 0 := by
  obtain ⟨fp, ⟨e, h1⟩, h2⟩ := (h.all 0).now
  exact ⟨h1, (h2 c.gT (by rw [e]; simp)).1⟩
theorem KS.bi (h : KS c O w s vk vn) : w.heap[c.gi]? = some (.cells (fI c.n s.idx).toArray 3 (0, 0)) ∧ O c.gi = 1 := by
  obtain ⟨fp, ⟨e, h1⟩, h2⟩ := (h.all 1).now
  exact ⟨h1, (h2 c.gi (by rw [e]; simp)).1⟩
theorem KS.bl (h : KS c O w s vk vn) : w.heap[c.gl]? = some (.cells (fI c.n s.low).toArray 3 (0, 0)) ∧ O c.gl = 2 := by
  obtain ⟨fp, ⟨e, h1⟩, h2⟩ := (h.all 2).now
  exact ⟨h1, (h2 c.gl (by rw [e]; simp)).1⟩
theorem KS.bn (h : KS c O w s vk vn) : w.heap[c.gn]? = some (.cells (fB c.n s.on).toArray 4 (0, 0)) ∧ O c.gn = 3 := by
  obtain ⟨fp, ⟨e, h1⟩, h2⟩ := (h.all 3).now
  exact ⟨h1, (h2 c.gn (by rw [e]; simp)).1⟩
theorem KS.bo (h : KS c O w s vk vn) : w.heap[c.go]? = some (.cells (fI c.n s.of).toArray 3 (0, 0)) ∧ O c.go = 4 := by
  obtain ⟨fp, ⟨e, h1⟩, h2⟩ := (h.all 4).now
  exact ⟨h1, (h2 c.go (by rw [e]; simp)).1⟩
theorem KS.stack (h : KS c O w s vk vn) : w.ownsRow c.base 3 1 vk s.stk.length (vi s.stk) ∧ ∀ b, vk.ownBlock = some b → O b = 5 := by
  obtain ⟨fp, ⟨e, h1⟩, h2⟩ := (h.all 5).now
  exact ⟨h1, fun b hb => (h2 b (by rw [e, hb]; simp)).1⟩
theorem KS.knots (h : KS c O w s vk vn) : ∃ bs, GRow 1 dInts 24 c.base w vn (knI s.kn) bs ∧ (∀ b, vn.ownBlock = some b → O b = 6) ∧ ∀ b ∈ bs, O b = 6 := by
  obtain ⟨fp, ⟨bs, e, h1⟩, h2⟩ := (h.all 6).now
  exact ⟨bs, h1, fun b hb => (h2 b (by rw [e, hb]; simp)).1, fun b hb => (h2 b (by rw [e]; simp [hb])).1⟩
/-- A step from one state to the next one: what holds of each owner, and what others see. -/
theorem KS.next {O1 : Nat → Nat} {s1 : TS} {vk1 vn1 : Value} (h : KS c O w s vk vn) (ha : All O1 w1 (kcomp c s1 vk1 vn1)) (hs : Stp O O1 w w1) : KS c O1 w1 s1 vk1 vn1 :=
  ⟨ha, hs.low h.low h.sz, Nat.le_trans h.sz hs.size⟩
end
/-! ### steps by owners -/
section
variable {O O1 : Nat → Nat} {k g : Nat} {w w1 w2 : World} {P : List Nat → World → Prop} {f : Nat → List Nat → World → Prop}
/-- All facts, and how the world came of an elder one. -/
structure KA (O : Nat → Nat) (w : World) (O1 : Nat → Nat) (w1 : World) (f : Nat → List Nat → World → Prop) : Prop where
  all : All O1 w1 f
  stp : Stp O O1 w w1
theorem KA.start (h : All O w f) : KA O w O w f := ⟨h, Stp.refl _ _⟩
theorem KA.up (h : KA O w O1 w1 f) (hb : Below w1.heap.size w1 w2) (k : Nat) : KA O w (newO O1 w1.heap.size k) w2 f := ⟨h.all.up hb k, h.stp.trans (Stp.up hb k)⟩
theorem KA.put {rb fp : List Nat} (h : KA O w O1 w1 f) (h5 : k < 50 ∨ 100 ≤ k) (hk : Kept rb w1 w2) (hr : ∀ b ∈ rb, b < w1.heap.size → O1 b = k) (hfp : ∀ b ∈ fp, (b < w1.heap.size → O1 b = k) ∧ b < w2.heap.size) (hP : ∀ w', (∀ b ∈ fp, w'.heap[b]? = w2.heap[b]?) → P fp w') : KA O w (newO O1 w1.heap.size k) w2 (updF f k P) :=
  ⟨h.all.put hk hr hfp hP, h.stp.trans (Stp.kept hk hr h5 k)⟩
theorem KA.putB {cs : List Value} {t : TypeId} (h : KA O w O1 w1 f) (h5 : k < 50 ∨ 100 ≤ k) (hp : Put w1 w2 g cs t) (hO : O1 g = k) (hP : ∀ w', w'.heap[g]? = some (.cells cs.toArray t (0, 0)) → P [g] w') : KA O w (newO O1 w1.heap.size k) w2 (updF f k P) :=
  h.put h5 (rb := [g]) (fp := [g]) (Kept.put (Kept.refl _ _) hp (.inl (by simp))) (by simpa using fun _ => hO) (by simpa using ⟨fun _ => hO, blk_lt hp.blk⟩) fun w' hw => hP w' ((hw g (by simp)).trans hp.blk)
theorem KA.imp {f' : Nat → List Nat → World → Prop} (h : KA O w O1 w1 f) (hi : ∀ j fp w, f j fp w → f' j fp w) : KA O w O1 w1 f' := ⟨h.all.imp hi, h.stp⟩
end
end Go.Proofs.Ytomldckplkecbaa

/- The library's sort at []int. -/
set_option linter.unusedVariables false
set_option maxRecDepth 100000
namespace Go.Proofs
open Go.Shelf
def Try.lays189_ren : Go.Shelf.Ren := ⟨fun | 189 => 33 | 125 => 35 | 257 => 34 | 128 => 45 | 129 => 46 | 294 => 36 | 295 => 37 | 296 => 38 | 297 => 39 | 298 => 40 | 299 => 41 | 216 => 42 | 300 => 43 | 301 => 44 | 328 => 47 | 329 => 48 | 330 => 49 | 331 => 50 | 332 => 51 | 215 => 52 | 343 => 53 | n => n, fun | 28 => 24 | 3 => 3 | 46 => 25 | 0 => 0 | 51 => 90 | 53 => 92 | 4 => 4 | 183 => 83 | 182 => 82 | 131 => 77 | 5 => 5 | 9 => 9 | 218 => 93 | 222 => 97 | 228 => 100 | 229 => 101 | n => n, fun | n => n⟩
theorem Try.lays189 : Go.Proofs.Lays.n189 Try.prog Try.lays189_ren := {
  mixed := by kernel_rfl
  f125 := Try.func35.trans (congrArg some (by kernel_rfl))
  f128 := Try.func45.trans (congrArg some (by kernel_rfl))
  f129 := Try.func46.trans (congrArg some (by kernel_rfl))
  f189 := Try.func33.trans (congrArg some (by kernel_rfl))
  f215 := Try.func52.trans (congrArg some (by kernel_rfl))
  f216 := Try.func42.trans (congrArg some (by kernel_rfl))
  f257 := Try.func34.trans (congrArg some (by kernel_rfl))
  f294 := Try.func36.trans (congrArg some (by kernel_rfl))
  f295 := Try.func37.trans (congrArg some (by kernel_rfl))
  f296 := Try.func38.trans (congrArg some (by kernel_rfl))
  f297 := Try.func39.trans (congrArg some (by kernel_rfl))
  f298 := Try.func40.trans (congrArg some (by kernel_rfl))
  f299 := Try.func41.trans (congrArg some (by kernel_rfl))
  f300 := Try.func43.trans (congrArg some (by kernel_rfl))
  f301 := Try.func44.trans (congrArg some (by kernel_rfl))
  f328 := Try.func47.trans (congrArg some (by kernel_rfl))
  f329 := Try.func48.trans (congrArg some (by kernel_rfl))
  f330 := Try.func49.trans (congrArg some (by kernel_rfl))
  f331 := Try.func50.trans (congrArg some (by kernel_rfl))
  f332 := Try.func51.trans (congrArg some (by kernel_rfl))
  f343 := Try.func53.trans (congrArg some (by kernel_rfl))
  t0 := Try.underlying0
  a0 := Try.isAgg0
  z0 := Try.sizeOf0
  v0 := Try.zeroValue0
  t3 := Try.underlying3
  a3 := Try.isAgg3
  z3 := Try.sizeOf3
  v3 := Try.zeroValue3
  t4 := Try.underlying4
  a4 := Try.isAgg4
  z4 := Try.sizeOf4
  v4 := Try.zeroValue4
  t5 := Try.underlying5
  a5 := Try.isAgg5
  z5 := Try.sizeOf5
  v5 := Try.zeroValue5
  t9 := Try.underlying9
  a9 := Try.isAgg9
  z9 := Try.sizeOf9
  v9 := Try.zeroValue9
  t28 := Try.underlying24
  a28 := Try.isAgg24
  z28 := Try.sizeOf24
  v28 := Try.zeroValue24
  t46 := Try.underlying25
  a46 := Try.isAgg25
  z46 := Try.sizeOf25
  v46 := Try.zeroValue25
  t51 := Try.underlying90
  a51 := Try.isAgg90
  z51 := Try.sizeOf90
  v51 := Try.zeroValue90
  t53 := Try.underlying92
  a53 := Try.isAgg92
  z53 := Try.sizeOf92
  v53 := Try.zeroValue92
  t131 := Try.underlying77
  a131 := Try.isAgg77
  z131 := Try.sizeOf77
  v131 := Try.zeroValue77
  t182 := Try.underlying82
  a182 := Try.isAgg82
  z182 := Try.sizeOf82
  v182 := Try.zeroValue82
  t183 := Try.underlying83
  a183 := Try.isAgg83
  z183 := Try.sizeOf83
  v183 := Try.zeroValue83
  t218 := Try.underlying93
  a218 := Try.isAgg93
  z218 := Try.sizeOf93
  v218 := Try.zeroValue93
  t222 := Try.underlying97
  a222 := Try.isAgg97
  z222 := Try.sizeOf97
  v222 := Try.zeroValue97
  t228 := Try.underlying100
  a228 := Try.isAgg100
  z228 := Try.sizeOf100
  v228 := Try.zeroValue100
  t229 := Try.underlying101
  a229 := Try.isAgg101
  z229 := Try.sizeOf101
  v229 := Try.zeroValue101 }
open Go.Sort Go.RowKit in
theorem Try.slices_Sort_int (blk off cap : Nat) (zs : List Int) (w : World) (hH : Holds (Value.int .i64) w blk off zs.toArray) (hblk : blk < w.heap.size) (hsz : zs.length < 4611686018427387904) :
    Calls Try.prog 33 #[.slice (some ⟨blk, off, none⟩) zs.length cap] w fun e w' =>
      e = .returned (.tuple #[]) ∧ ∃ n os, w' = grow (putRow (Value.int .i64) (Sort.ahead w n) blk off (zs.mergeSort fun x y => decide (x ≤ y)).toArray) os := Any.slices_Sort_int Try.lays189 blk off cap zs w hH hblk hsz


theorem Try.slices_Sort_int_none (p : Option Addr) (cap : Nat) (w : World) :
    Calls Try.prog 33 #[.slice p 0 cap] w fun e w' => e = .returned (.tuple #[]) ∧ w' = w := Any.slices_Sort_int_none Try.lays189 p cap w
end Go.Proofs
namespace Go.Proofs.Ytomldckplkecbaa
open Go.RowKit
set_option linter.unusedSimpArgs false
def srt (xs : List Int) : List Int := xs.mergeSort fun x y => decide (x ≤ y)
/-- A row of the call's own, sorted in place. -/
theorem sortOwn {w : World} {base : Nat} {v : Value} {xs : List Int} (h : w.ownsRow base 3 1 v xs.length (xs.map (Value.int .i64))) (hx : xs.length < 4611686018427387904) :
    Calls Try.prog 33 #[v] w fun e w' => e = .returned (.tuple #[]) ∧ w.grownBy w' v.ownBlock ∧ w'.ownsRow base 3 1 v xs.length ((srt xs).map (Value.int .i64)) := by
  rcases h.2 with ⟨h0, h1⟩ | ⟨g, cap, cur, hv, hg, hb, hn, hcap, hs, htk⟩
  · have hl : xs = [] := List.length_eq_zero_iff.1 h1
    have hs : srt xs = xs := by rw [hl]; unfold srt; exact List.mergeSort_nil
    rw [hs, h0]
    rw [h0] at h
    refine (Try.slices_Sort_int_none none 0 w).mono ?_
    rintro e w' ⟨he, hw⟩
    rw [hw]
    exact ⟨he, grown_refl _ _, h⟩
  · rw [hv]
    have hlt : g < w.heap.size := (Array.getElem?_eq_some_iff.1 hb).1
    refine (Try.slices_Sort_int g 0 cap xs w (holds_of_blockI hb (by simpa using htk)) hlt hx).mono ?_
    rintro e w' ⟨he, n, os, rfl⟩
    have hlen : (srt xs).length = xs.length := by unfold srt; exact List.length_mergeSort _
    exact ⟨he, grownBy_sortedI _, ownsRow_sortedI hlen hg hb hn hcap hs⟩
end Go.Proofs.Ytomldckplkecbaa
