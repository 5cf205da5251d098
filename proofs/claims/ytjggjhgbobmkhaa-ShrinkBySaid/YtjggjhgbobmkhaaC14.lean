/- Several texts of one claim in one file: EW17 EV17 F03 H03 I03 A03. -/
import Derived.Test.YtjggjhgbobmkhaaC4
import Derived.Maps.RangeWalk
import Derived.Test.YtjggjhgbobmkhaaC5
import Derived.Test.YtjggjhgbobmkhaaC6
/- Maps whose keys are numbers: sets, and numbers by numbers; the walk's steps on them. -/
namespace Go.Proofs.Ytjggjhgbobmkhaa
open Go.RowKit
set_option linter.unusedVariables false
set_option linter.unusedSimpArgs false
def inI (x : Int) : Prop := -9223372036854775808 ≤ x ∧ x ≤ 9223372036854775807
theorem wf_inI {x : Int} (h : inI x) : (Lit.int .i64 x).wf = true := by
  unfold Lit.wf
  simp only [Bool.and_eq_true, decide_eq_true_eq]
  exact h
theorem isKey_int (x : Int) : WideAt.IsKeyLit (.int .i64 x) := by simp [WideAt.IsKeyLit]
/-- What a key's type is, and an element's: k a number's, e a truth's. -/
structure SetT (P : Program) (t k e : TypeId) : Prop where
  t : P.underlying t = some (.map k e)
  k : P.underlying k = some (.int .i64)
  e : P.underlying e = some .bool
structure NumT (P : Program) (t k e : TypeId) : Prop where
  t : P.underlying t = some (.map k e)
  k : P.underlying k = some (.int .i64)
  e : P.underlying e = some (.int .i64)
section
variable {P : Program} {t k e : TypeId} {w w1 : World} {b n : Nat} {L : List Int}
/-- Block b is a set of numbers: those of L, each once. -/
structure SetM (P : Program) (k e : TypeId) (w : World) (b : Nat) (L : List Int) (n : Nat) : Prop where
  ex : ∃ D : DataW Unit, w.ownsMap P k (plainElem P e) b n D ∧ (∀ l, Maps.has D l = true ↔ ∃ x ∈ L, l = Lit.int .i64 x) ∧ Maps.size D = L.length
  nd : L.Nodup
theorem SetM.lt (h : SetM P k e w b L n) : b < w.heap.size := by
  obtain ⟨D, h1, _⟩ := h.ex
  exact h1.lt
theorem SetM.kept {row : Option Nat} (h : SetM P k e w b L n) (hg : w.grownBy w1 row) (hne : some b ≠ row) : SetM P k e w1 b L n := by
  obtain ⟨D, h1, h2⟩ := h.ex
  exact ⟨⟨D, h1.kept hg hne, h2⟩, h.nd⟩
theorem SetM.up (h : SetM P k e w b L n) (hb : Below w.heap.size w w1) : SetM P k e w1 b L n := h.kept (row := none) (grown_of hb) nofun
theorem SetM.made (hb : w1 = w.alloc (.map #[] 0)) : SetM P k e w1 w.heap.size [] 0 := by
  subst hb
  refine ⟨⟨.map [], World.ownsMap_made w P k _, fun l => ⟨fun h => (by cases h), fun ⟨x, hx, _⟩ => (by cases hx)⟩, rfl⟩, .nil⟩
def addI (L : List Int) (x : Int) : List Int := if x ∈ L then L else L ++ [x]
theorem addI_mem {L : List Int} {x y : Int} : y ∈ addI L x ↔ y ∈ L ∨ y = x := by
  unfold addI
  split
  · rename_i h
    exact ⟨.inl, fun h2 => h2.elim id fun e => e ▸ h⟩
  · simp
theorem SetM.put (hT : SetT P t k e) (h : SetM P k e w b L n) (hn : n < maxLen) {x : Int} (hx : inI x) :
    ∃ w', (Instr.mapUpdate t (.map (some b)) (.int .i64 x) (.bool true)).run P w = .ok () w' ∧ SetM P k e w' b (addI L x) (n + 1) ∧ w.grownBy w' (some b) := by
  obtain ⟨D, h1, h2, h3⟩ := h.ex
  have K := Maps.int_keyed (P := P) hT.k
  obtain ⟨w', hr, h4, h5⟩ := h1.update K hT.t hn (Maps.keyOf_int_mk hT.k (wf_inI hx)) (plainElem_bool hT.e true)
  refine ⟨w', hr, ⟨⟨_, h4, fun l => ?_, ?_⟩, ?_⟩, h5⟩
  · by_cases e1 : l = .int .i64 x
    · subst e1
      rw [Maps.has_put_same (h1.isMap) (isKey_int x)]
      exact ⟨fun _ => ⟨x, addI_mem.2 (.inr rfl), rfl⟩, fun _ => rfl⟩
    · rw [Maps.has_put_other e1, h2]
      constructor
      · rintro ⟨y, hy, rfl⟩
        exact ⟨y, addI_mem.2 (.inl hy), rfl⟩
      · rintro ⟨y, hy, rfl⟩
        rcases addI_mem.1 hy with hy | rfl
        · exact ⟨y, hy, rfl⟩
        · exact absurd rfl e1
  · rw [Maps.size_put (h1.tidy K)]
    have hm : Maps.has D (.int .i64 x) = true ↔ x ∈ L := by
      rw [h2]
      exact ⟨fun ⟨y, hy, e⟩ => by injection e with _ e; exact e ▸ hy, fun hx => ⟨x, hx, rfl⟩⟩
    unfold addI
    by_cases hxL : x ∈ L
    · rw [if_pos (hm.2 hxL), if_pos hxL, h3]
    · rw [if_neg (fun hh => hxL (hm.1 hh)), if_neg hxL, h3]
      simp
  · unfold addI
    split
    · exact h.nd
    · rename_i hxL
      rw [List.nodup_append]
      exact ⟨h.nd, by simp, fun a ha c hc e => by simp at hc; subst hc; exact hxL (e ▸ ha)⟩
theorem SetM.len (hT : SetT P t k e) (h : SetM P k e w b L n) (ty : TypeId) : (Builtin.len_ #[t] ty #[.map (some b)]).run P w = .ok (.int .i64 (L.length : Int)) w := by
  obtain ⟨D, h1, h2, h3⟩ := h.ex
  rw [h1.len hT.t ty, h3]
/-- A set of one number: the round over it gives that. -/
theorem SetM.only {x : Int} (hT : SetT P t k e) (h : SetM P k e w b [x] n) :
    ∃ w1, (Instr.range t (.map (some b))).run P w = .ok (.pointer (some ⟨w.heap.size, 0, none⟩)) w1 ∧ Below w.heap.size w w1 ∧ ∀ ty,
      ∃ w2 v, (Instr.next (.pointer (some ⟨w.heap.size, 0, none⟩)) false ty).run P w1 = .ok (.tuple #[.bool true, .int .i64 x, v]) w2 ∧ Below w.heap.size w w2 ∧ (Instr.entry (.pointer (some ⟨w.heap.size, 0, none⟩))).run P w2 = .ok (.tuple #[.int .i64 x, v]) w2 := by
  obtain ⟨D, h1, h2, h3⟩ := h.ex
  have K := Maps.int_keyed (P := P) hT.k
  obtain ⟨w1, hr, h4, h5, h6⟩ := h1.range K hT.t
  have hB1 : Below w.heap.size w w1 := ⟨h5.os, h5.tape, h5.output, h5.size, fun j hj => h5.block j hj (by simp)⟩
  refine ⟨w1, hr, hB1, fun ty => ?_⟩
  rcases h4.next K ty with ⟨h0, _⟩ | ⟨key, v, kl, y, w2, cnt', hkey, hl, hv, hat, hrun, hrg, hlt, hgr, hsz, hen⟩
  · rw [h3] at h0
    cases h0
  · obtain ⟨x', hx', rfl⟩ := (h2 kl).1 hl
    simp only [List.mem_singleton] at hx'
    subst hx'
    obtain ⟨x2, rfl, e2, _⟩ := Maps.keyOf_int_inv hT.k hkey
    injection e2 with _ e2
    subst e2
    exact ⟨w2, v, hrun, hB1.grown hgr hB1.size (fun j hj => by injection hj with hj; omega), hen⟩
/-- Block b tells numbers by numbers: f. -/
structure NumM (P : Program) (k e : TypeId) (w : World) (b : Nat) (f : Int → Option Nat) (n : Nat) : Prop where
  ex : ∃ D : DataW Unit, w.ownsMap P k (plainElem P e) b n D ∧ (∀ l, Maps.has D l = true ↔ ∃ x, (f x).isSome = true ∧ l = Lit.int .i64 x) ∧ ∀ x m, f x = some m → ∀ z, D.atKey (.int .i64 x) z = .lit (.int .i64 (m : Int))
variable {f : Int → Option Nat}
theorem NumM.lt (h : NumM P k e w b f n) : b < w.heap.size := by
  obtain ⟨D, h1, _⟩ := h.ex
  exact h1.lt
theorem NumM.kept {row : Option Nat} (h : NumM P k e w b f n) (hg : w.grownBy w1 row) (hne : some b ≠ row) : NumM P k e w1 b f n := by
  obtain ⟨D, h1, h2⟩ := h.ex
  exact ⟨⟨D, h1.kept hg hne, h2⟩⟩
theorem NumM.up (h : NumM P k e w b f n) (hb : Below w.heap.size w w1) : NumM P k e w1 b f n := h.kept (row := none) (grown_of hb) nofun
theorem NumM.made (hb : w1 = w.alloc (.map #[] 0)) : NumM P k e w1 w.heap.size (fun _ => none) 0 := by
  subst hb
  exact ⟨⟨.map [], World.ownsMap_made w P k _, fun l => ⟨fun h => (by cases h), fun ⟨x, hx, _⟩ => (by cases hx)⟩, fun x m h => (by cases h)⟩⟩
def putN (f : Int → Option Nat) (x : Int) (m : Nat) : Int → Option Nat := fun y => if y = x then some m else f y
theorem NumM.put (hT : NumT P t k e) (h : NumM P k e w b f n) (hn : n < maxLen) {x : Int} {m : Nat} (hx : inI x) (hm : inI (m : Int)) :
    ∃ w', (Instr.mapUpdate t (.map (some b)) (.int .i64 x) (.int .i64 (m : Int))).run P w = .ok () w' ∧ NumM P k e w' b (putN f x m) (n + 1) ∧ w.grownBy w' (some b) := by
  obtain ⟨D, h1, h2, h3⟩ := h.ex
  have K := Maps.int_keyed (P := P) hT.k
  obtain ⟨w', hr, h4, h5⟩ := h1.update K hT.t hn (Maps.keyOf_int_mk hT.k (wf_inI hx)) (plainElem_int hT.e (wf_inI hm))
  refine ⟨w', hr, ⟨⟨_, h4, fun l => ?_, fun y m' hy z => ?_⟩⟩, h5⟩
  · by_cases e1 : l = .int .i64 x
    · subst e1
      rw [Maps.has_put_same (h1.isMap) (isKey_int x)]
      exact ⟨fun _ => ⟨x, by unfold putN; rw [if_pos rfl]; rfl, rfl⟩, fun _ => rfl⟩
    · rw [Maps.has_put_other e1, h2]
      constructor
      · rintro ⟨y, hy, rfl⟩
        exact ⟨y, by unfold putN; rw [if_neg (fun e2 => e1 (by rw [e2]))]; exact hy, rfl⟩
      · rintro ⟨y, hy, rfl⟩
        refine ⟨y, ?_, rfl⟩
        unfold putN at hy
        rwa [if_neg (fun e2 => e1 (by rw [e2]))] at hy
  · unfold putN at hy
    by_cases e1 : y = x
    · subst e1
      rw [if_pos rfl] at hy
      injection hy with hy
      subst hy
      exact Maps.atKey_put_same h1.isMap (isKey_int y) _ z
    · rw [if_neg e1] at hy
      rw [Maps.atKey_put_other (fun e2 => e1 (by injection e2)), h3 y m' hy]
theorem NumM.look (hT : NumT P t k e) (h : NumM P k e w b f n) (hz : (zeroValue e).run P w = .ok (.int .i64 0) w) {x : Int} (hx : inI x) :
    ∃ v : Int, (Instr.lookup t (.map (some b)) (.int .i64 x) true).run P w = .ok (.tuple #[.int .i64 v, .bool (f x).isSome]) w ∧ ∀ m, f x = some m → v = (m : Int) := by
  obtain ⟨D, h1, h2, h3⟩ := h.ex
  have K := Maps.int_keyed (P := P) hT.k
  obtain ⟨v, ps, hr, hv⟩ := h1.look_ok K hT.t hz (plainElem_int hT.e (by decide)) (Maps.keyOf_int_mk hT.k (wf_inI hx))
  obtain ⟨c, rfl, hc, _⟩ := plainElem_int_inv hT.e hv
  have hhas : Maps.has D (.int .i64 x) = (f x).isSome := by
    cases hf : (f x).isSome with
    | true => exact (h2 _).2 ⟨x, hf, rfl⟩
    | false =>
      cases hh : Maps.has D (.int .i64 x) with
      | false => rfl
      | true =>
        obtain ⟨y, hy, e1⟩ := (h2 _).1 hh
        injection e1 with _ e1
        subst e1
        rw [hf] at hy
        cases hy
  rw [hhas] at hr
  refine ⟨c, hr, fun m hm => ?_⟩
  have h4 := h3 x m hm (.lit (.int .i64 0))
  simp only [Prod.mk.injEq] at hc
  have h5 := hc.1.symm.trans h4
  injection h5 with h5
  injection h5
end
end Go.Proofs.Ytjggjhgbobmkhaa

/- The walk's steps on maps of numbers. -/
namespace Go.Proofs.Ytjggjhgbobmkhaa
open Go.RowKit
set_option linter.unusedVariables false
set_option linter.unusedSimpArgs false
section
variable {P : Program} {T : Nat → Option TI} {n : Nat} {Q : Post} {F : Fm} {w : World} {ops : Array Oper} {rest : List Oper} {o : Oper}
theorem wl_mkM {t : TypeId} (hop : o.op = .makeMap t none) (hg : o.guard = none) {d : Nat} (hd : o.dst = some d) (hn : Nat.blt d n = true) (k : ∀ b w1, b = w.heap.size → w1 = w.alloc (.map #[] 0) → Below w.heap.size w w1 → wl P n ops rest Q (upd F d (.map (some b))) w1) : wl P n ops (o :: rest) Q F w := by
  refine wl_val hg hd hn ?_ (k _ _ rfl rfl ?_)
  · simp [execOp, hop, run_makeMap]
  · have h := World.grownBy_alloc w (.map #[] 0) none
    exact ⟨h.os, h.tape, h.output, h.size, fun j hj => h.block j hj (by simp)⟩
theorem wl_mu {t : TypeId} {m x y : Operand} {b : Nat} {key val : Value} {R : World → Prop} (h : ∃ w', (Instr.mapUpdate t (.map (some b)) key val).run P w = .ok () w' ∧ R w') (hop : o.op = .mapUpdate t m x y) (hm : ev F m = .map (some b)) (hx : ev F x = key) (hy : ev F y = val) (hg : o.guard = none) (hd : o.dst = none)
    (k : ∀ w', R w' → wl P n ops rest Q F w') : wl P n ops (o :: rest) Q F w := by
  obtain ⟨w', hr, hR⟩ := h
  refine wl_skp hg hd ?_ (k w' hR)
  simp [execOp, hop, hm, hx, hy, hr]
theorem wl_lenM {t : TypeId} {c : Call} {x : Operand} {b : Nat} {v : Value} (h : ∀ ty, (Builtin.len_ #[t] ty #[.map (some b)]).run P w = .ok v w) (hop : o.op = .call c) (hcal : c.callee = .builtin .len) (hargs : c.args.toList = [x]) (htys : c.argTypes.toList = [t]) (hx : ev F x = .map (some b)) (hg : o.guard = none) {d : Nat} (hd : o.dst = some d) (hn : Nat.blt d n = true)
    (k : wl P n ops rest Q (upd F d v) w) : wl P n ops (o :: rest) Q F w := by
  refine wl_val hg hd hn ?_ k
  obtain ⟨callee, ⟨args⟩, ⟨tys⟩⟩ := c
  simp only at hcal hargs htys
  subst hcal hargs htys
  simp [execOp, hop, resolve, invoke, builtin, hx, h]
theorem wl_lkM {t : TypeId} {m x : Operand} {b : Nat} {key v : Value} (h : (Instr.lookup t (.map (some b)) key true).run P w = .ok v w) (hop : o.op = .lookup t m x true) (hm : ev F m = .map (some b)) (hx : ev F x = key) (hg : o.guard = none) {d : Nat} (hd : o.dst = some d) (hn : Nat.blt d n = true)
    (k : wl P n ops rest Q (upd F d v) w) : wl P n ops (o :: rest) Q F w := by
  refine wl_val hg hd hn ?_ k
  simp [execOp, hop, hm, hx, h]
theorem wl_rngM {t : TypeId} {m : Operand} {b : Nat} {v : Value} {w1 : World} (h : (Instr.range t (.map (some b))).run P w = .ok v w1) (hop : o.op = .range t m) (hm : ev F m = .map (some b)) (hg : o.guard = none) {d : Nat} (hd : o.dst = some d) (hn : Nat.blt d n = true)
    (k : wl P n ops rest Q (upd F d v) w1) : wl P n ops (o :: rest) Q F w := by
  refine wl_val hg hd hn ?_ k
  simp [execOp, hop, hm, h]
theorem wl_nxM {it : Operand} {a v : Value} {w1 : World} (h : (Instr.next a false o.type).run P w = .ok v w1) (hop : o.op = .next it false) (hm : ev F it = a) (hg : o.guard = none) {d : Nat} (hd : o.dst = some d) (hn : Nat.blt d n = true)
    (k : wl P n ops rest Q (upd F d v) w1) : wl P n ops (o :: rest) Q F w := by
  refine wl_val hg hd hn ?_ k
  simp [execOp, hop, hm, h]
theorem wl_enM {it : Operand} {a v : Value} (h : (Instr.entry a).run P w = .ok v w) (hop : o.op = .entry it) (hm : ev F it = a) (hg : o.guard = none) {d : Nat} (hd : o.dst = some d) (hn : Nat.blt d n = true)
    (k : wl P n ops rest Q (upd F d v) w) : wl P n ops (o :: rest) Q F w := by
  refine wl_val hg hd hn ?_ k
  simp [execOp, hop, hm, h]
end
/-- A loop by itself: what follows it is walked behind it. -/
theorem wc_ends {P : Program} {n : Nat} {Q : Post} {F : Fm} {w : World} {X : Type} (id : Nat) (rr : Fm → World → Prop) (S : X → List (Nat × Value)) (R : X → World → Prop) {c : Code} (h : wc P n c ⟨fun _ _ => False, rr, fun i F' w' => i = id ∧ ∃ x, holds F' (S x) ∧ R x w'⟩ F w) (hr : ∀ F w, rr F w → Q.r F w) (k : ∀ x G w, R x w → Q.x id (upds G (S x)) w) : wc P n c Q F w :=
  wc_mono h (fun _ _ h => h.elim) hr (fun i F' w' h => by
    obtain ⟨rfl, x, h1, h2⟩ := h
    have := k x F' w' h2
    rwa [upds_of_holds h1] at this)
theorem setTy : SetT Try.prog 85 3 4 := ⟨Try.underlying85, Try.underlying3, Try.underlying4⟩
theorem numTy : NumT Try.prog 84 3 3 := ⟨Try.underlying84, Try.underlying3, Try.underlying3⟩
abbrev ISet := SetM Try.prog 3 4
abbrev INum := NumM Try.prog 3 3
theorem zeroI (w : World) : (zeroValue 3).run Try.prog w = .ok (.int .i64 0) w := by kernel_rfl
end Go.Proofs.Ytjggjhgbobmkhaa

/- pile: find, list, Has, Len; math/bits.OnesCount64, TrailingZeros64. -/
namespace Go.Proofs.Ytjggjhgbobmkhaa
open Go.RowKit
set_option linter.unusedVariables false
set_option linter.unusedSimpArgs false
set_option maxRecDepth 100000
theorem pCmp (a : Int) (w0 : Nat) (t : Int) (ha : 0 ≤ a ∧ a < 144115188075855872) (ht : 0 ≤ t ∧ t < 144115188075855872) (w : World) :
    Calls Try.prog 55 #[.agg #[.int .i64 a, .int .u64 (w0 : Int)], .int .i64 t] w fun e w' => e = .returned (.int .i64 (a - t)) ∧ Below w.heap.size w w' := by
  refine enterR (args := [.agg #[.int .i64 a, .int .u64 (w0 : Int)], .int .i64 t]) tabOk Try.func55 rfl Try.ntmps55 rfl ?_; conv => whnf
  refine wl_box rfl rfl rfl rfl rfl rfl ?_
  intro g1 w1 hn1
  have hb := hn1.blk
  refine run_l tabOk ?_
  conv => whnf
  (repeat' (first | (refine wl_Lg tabOk hb rfl rfl rfl rfl rfl rfl rfl (run_l tabOk ?_); conv => whnf) | ((first | refine wl_add rfl rfl rfl rfl rfl rfl (by omega) (by omega) (run_l tabOk ?_) | refine wl_sub rfl rfl rfl rfl rfl rfl (by omega) (by omega) (run_l tabOk ?_) | refine wl_cvA tabOk rfl rfl rfl (by simp only [inK]; omega) rfl rfl rfl (run_l tabOk ?_) | refine gs_dt (by first | assumption | omega) ?_ | refine gs_df (by first | assumption | omega) ?_) <;> conv => whnf) | refine fin1 rfl rfl ?_))
  exact ⟨rfl, hn1.below⟩
def fndB (bs : List Blk) (t : Int) (i : Nat) (ok : Bool) : Prop := i ≤ bs.length ∧ (∀ j, j < i → bs[j]!.a < t) ∧ (∀ j, i ≤ j → j < bs.length → t ≤ bs[j]!.a) ∧ ok = (decide (i < bs.length) && decide (bs[i]!.a = t))
set_option maxHeartbeats 4000000 in
theorem pSearch (bs : List Blk) (A : Option Addr) (c : Nat) (t : Int) (hr : ∀ b ∈ bs, 0 ≤ b.a ∧ b.a < 144115188075855872) (hs : ∀ i j, i < j → j < bs.length → bs[i]!.a < bs[j]!.a) (ht : 0 ≤ t ∧ t < 144115188075855872) (hl : bs.length ≤ 4611686018427387904) (w : World) (h : RowR 2 dBlk w A bs) :
    Calls Try.prog 54 #[.slice A bs.length c, .int .i64 t, .func (.func 55) #[] #[]] w fun e w' => ∃ (i : Nat) (ok : Bool), e = .returned (.tuple #[.int .i64 i, .bool ok]) ∧ fndB bs t i ok ∧ Below w.heap.size w w' := by
  refine enterR (args := [.slice A bs.length c, .int .i64 t, .func (.func 55) #[] #[]]) tabOk Try.func54 rfl Try.ntmps54 rfl ?_; conv => whnf
  (repeat' (first | ((first | refine wl_add rfl rfl rfl rfl rfl rfl (by omega) (by omega) (run_l tabOk ?_) | refine wl_sub rfl rfl rfl rfl rfl rfl (by omega) (by omega) (run_l tabOk ?_) | refine wl_cvA tabOk rfl rfl rfl (by simp only [inK]; omega) rfl rfl rfl (run_l tabOk ?_) | refine gs_dt (by first | assumption | omega) ?_ | refine gs_df (by first | assumption | omega) ?_) <;> conv => whnf) | refine fin1 rfl rfl ?_))
  refine lp_loop tabOk (X := Nat × Nat) (fun x => [(0, .slice A bs.length c), (1, .int .i64 t), (2, .func (.func 55) #[] #[]), (8, .int .i64 bs.length), (9, .int .i64 x.1), (10, .int .i64 x.2)])
    (fun x wr => x.1 ≤ x.2 ∧ x.2 ≤ bs.length ∧ (∀ j, j < x.1 → bs[j]!.a < t) ∧ (∀ j, x.2 ≤ j → j < bs.length → t ≤ bs[j]!.a) ∧ Below w.heap.size w wr) (fun x => x.2 - x.1) (0, bs.length) ⟨rfl, rfl, rfl, rfl, rfl, rfl, trivial⟩ ⟨by omega, by omega, by omega, by omega, Below.refl _ _⟩ ?_
  intro ⟨lo, hi⟩ G wr ⟨h1, h2, h3, h4, hB⟩
  simp only at h1 h2 h3 h4
  dsimp only
  conv => whnf
  have hlo : bs.length ≤ bs.length := Nat.le_refl _
  have hr' := h.up stays_Blk hB
  by_cases hlt : lo < hi
  · obtain ⟨m, hm⟩ : ∃ m, m = (lo + hi) / 2 := ⟨_, rfl⟩
    have hmm : (lo : Int) + (hi : Int) = ((lo + hi : Nat) : Int) := by omega
    (repeat' (first | ((first | refine wl_add rfl rfl rfl rfl rfl rfl (by omega) (by omega) (run_l tabOk ?_) | refine wl_sub rfl rfl rfl rfl rfl rfl (by omega) (by omega) (run_l tabOk ?_) | refine wl_cvA tabOk rfl rfl rfl (by simp only [inK]; omega) rfl rfl rfl (run_l tabOk ?_) | refine gs_dt (by first | assumption | omega) ?_ | refine gs_df (by first | assumption | omega) ?_) <;> conv => whnf) | refine fin1 rfl rfl ?_))
    refine wl_shr (r := ((m : Nat) : Int)) (by simp [IntKind.bits]; omega) rfl rfl rfl (by omega) rfl rfl rfl ?_
    refine run_l tabOk ?_
    conv => whnf
    obtain ⟨ad, rfl, hc⟩ := rowB_at hr' m (by omega)
    have hb := hr _ (mem_getB (bs := bs) (i := m) (by omega))
    (repeat' (first | (refine wl_Xn tabOk 82 2 rfl rfl rfl rfl rfl rfl rfl (by omega) (run_l tabOk ?_); conv => whnf) | (refine wl_La tabOk hc rfl rfl rfl rfl rfl rfl (run_l tabOk ?_); conv => whnf) | ((first | refine wl_add rfl rfl rfl rfl rfl rfl (by omega) (by omega) (run_l tabOk ?_) | refine wl_sub rfl rfl rfl rfl rfl rfl (by omega) (by omega) (run_l tabOk ?_) | refine wl_cvA tabOk rfl rfl rfl (by simp only [inK]; omega) rfl rfl rfl (run_l tabOk ?_) | refine gs_dt (by first | assumption | omega) ?_ | refine gs_df (by first | assumption | omega) ?_) <;> conv => whnf) | refine fin1 rfl rfl ?_))
    refine wl_C fn55 (pCmp bs[m]!.a bs[m]!.w t hb ht wr) rfl rfl rfl rfl rfl rfl rfl ?_
    rintro _ w2 ⟨rfl, hB2⟩
    refine ⟨_, rfl, run_l tabOk ?_⟩
    conv => whnf
    by_cases hlt2 : bs[m]!.a < t
    · (repeat' (first | ((first | refine wl_add rfl rfl rfl rfl rfl rfl (by omega) (by omega) (run_l tabOk ?_) | refine wl_sub rfl rfl rfl rfl rfl rfl (by omega) (by omega) (run_l tabOk ?_) | refine wl_cvA tabOk rfl rfl rfl (by simp only [inK]; omega) rfl rfl rfl (run_l tabOk ?_) | refine gs_dt (by first | assumption | omega) ?_ | refine gs_df (by first | assumption | omega) ?_) <;> conv => whnf) | refine fin1 rfl rfl ?_))
      refine ⟨(m + 1, hi), ⟨rfl, rfl, rfl, rfl, rfl, rfl, trivial⟩, ⟨by simp only; omega, h2, fun j hj => ?_, h4, bup hB hB2⟩, by simp only; omega⟩
      simp only at hj
      rcases Nat.lt_or_ge j m with h5 | h5
      · have := hs j m h5 (by omega); omega
      · have : j = m := by omega
        subst this; exact hlt2
    · (repeat' (first | ((first | refine wl_add rfl rfl rfl rfl rfl rfl (by omega) (by omega) (run_l tabOk ?_) | refine wl_sub rfl rfl rfl rfl rfl rfl (by omega) (by omega) (run_l tabOk ?_) | refine wl_cvA tabOk rfl rfl rfl (by simp only [inK]; omega) rfl rfl rfl (run_l tabOk ?_) | refine gs_dt (by first | assumption | omega) ?_ | refine gs_df (by first | assumption | omega) ?_) <;> conv => whnf) | refine fin1 rfl rfl ?_))
      refine ⟨(lo, m), ⟨rfl, rfl, rfl, rfl, rfl, rfl, trivial⟩, ⟨by simp only; omega, by simp only; omega, h3, fun j hj hj2 => ?_, bup hB hB2⟩, by simp only; omega⟩
      simp only at hj
      rcases Nat.lt_or_ge m j with h5 | h5
      · have := hs m j h5 hj2; omega
      · have : j = m := by omega
        subst this; omega
  · have e : lo = hi := by omega
    subst e
    by_cases hl2 : lo < bs.length
    · obtain ⟨ad, rfl, hc⟩ := rowB_at hr' lo hl2
      have hb := hr _ (mem_getB (bs := bs) (i := lo) hl2)
      (repeat' (first | (refine wl_Xn tabOk 82 2 rfl rfl rfl rfl rfl rfl rfl (by omega) (run_l tabOk ?_); conv => whnf) | (refine wl_La tabOk hc rfl rfl rfl rfl rfl rfl (run_l tabOk ?_); conv => whnf) | ((first | refine wl_add rfl rfl rfl rfl rfl rfl (by omega) (by omega) (run_l tabOk ?_) | refine wl_sub rfl rfl rfl rfl rfl rfl (by omega) (by omega) (run_l tabOk ?_) | refine wl_cvA tabOk rfl rfl rfl (by simp only [inK]; omega) rfl rfl rfl (run_l tabOk ?_) | refine gs_dt (by first | assumption | omega) ?_ | refine gs_df (by first | assumption | omega) ?_) <;> conv => whnf) | refine fin1 rfl rfl ?_))
      refine wl_C fn55 (pCmp bs[lo]!.a bs[lo]!.w t hb ht wr) rfl rfl rfl rfl rfl rfl rfl ?_
      rintro _ w2 ⟨rfl, hB2⟩
      refine ⟨_, rfl, run_l tabOk ?_⟩
      conv => whnf
      by_cases he : bs[lo]!.a = t
      · (repeat' (first | ((first | refine wl_add rfl rfl rfl rfl rfl rfl (by omega) (by omega) (run_l tabOk ?_) | refine wl_sub rfl rfl rfl rfl rfl rfl (by omega) (by omega) (run_l tabOk ?_) | refine wl_cvA tabOk rfl rfl rfl (by simp only [inK]; omega) rfl rfl rfl (run_l tabOk ?_) | refine gs_dt (by first | assumption | omega) ?_ | refine gs_df (by first | assumption | omega) ?_) <;> conv => whnf) | refine fin1 rfl rfl ?_))
        refine fin2 rfl rfl rfl ⟨lo, true, ?_, ⟨h2, h3, h4, ?_⟩, bup hB hB2⟩
        · rw [decide_eq_true (by omega : bs[lo]!.a - t = 0)]
        · rw [decide_eq_true hl2, decide_eq_true he]; rfl
      · (repeat' (first | ((first | refine wl_add rfl rfl rfl rfl rfl rfl (by omega) (by omega) (run_l tabOk ?_) | refine wl_sub rfl rfl rfl rfl rfl rfl (by omega) (by omega) (run_l tabOk ?_) | refine wl_cvA tabOk rfl rfl rfl (by simp only [inK]; omega) rfl rfl rfl (run_l tabOk ?_) | refine gs_dt (by first | assumption | omega) ?_ | refine gs_df (by first | assumption | omega) ?_) <;> conv => whnf) | refine fin1 rfl rfl ?_))
        refine fin2 rfl rfl rfl ⟨lo, false, ?_, ⟨h2, h3, h4, ?_⟩, bup hB hB2⟩
        · rw [decide_eq_false (by omega : ¬ bs[lo]!.a - t = 0)]
        · rw [decide_eq_true hl2, decide_eq_false he]; rfl
    · (repeat' (first | ((first | refine wl_add rfl rfl rfl rfl rfl rfl (by omega) (by omega) (run_l tabOk ?_) | refine wl_sub rfl rfl rfl rfl rfl rfl (by omega) (by omega) (run_l tabOk ?_) | refine wl_cvA tabOk rfl rfl rfl (by simp only [inK]; omega) rfl rfl rfl (run_l tabOk ?_) | refine gs_dt (by first | assumption | omega) ?_ | refine gs_df (by first | assumption | omega) ?_) <;> conv => whnf) | refine fin1 rfl rfl ?_))
      refine fin2 rfl rfl rfl ⟨lo, false, ?_, ⟨h2, h3, h4, ?_⟩, hB⟩
      · rfl
      · rw [decide_eq_false hl2]; rfl
/-- The place of a block. -/
theorem pFind {base g : Nat} {w : World} {bs : List Blk} {fp : List Nat} (hP : PSet base g w bs fp) (t : Int) (ht : 0 ≤ t ∧ t < 144115188075855872) (hl : bs.length ≤ 4611686018427387904) :
    Calls Try.prog 40 #[.pointer (some ⟨g, 0, none⟩), .int .i64 t] w fun e w' => ∃ (i : Nat) (ok : Bool), e = .returned (.tuple #[.int .i64 i, .bool ok]) ∧ fndB bs t i ok ∧ Below w.heap.size w w' := by
  obtain ⟨V, hb, ho, rfl, hne⟩ := hP.ex
  obtain ⟨A, c, rfl, hlc, hrow⟩ := ho.row
  refine enterR (args := [.pointer (some ⟨g, 0, none⟩), .int .i64 t]) tabOk Try.func40 rfl Try.ntmps40 rfl ?_; conv => whnf
  (repeat' (first | (refine wl_Lg tabOk hb rfl rfl rfl rfl rfl rfl rfl (run_l tabOk ?_); conv => whnf) | ((first | refine wl_add rfl rfl rfl rfl rfl rfl (by omega) (by omega) (run_l tabOk ?_) | refine wl_sub rfl rfl rfl rfl rfl rfl (by omega) (by omega) (run_l tabOk ?_) | refine wl_cvA tabOk rfl rfl rfl (by simp only [inK]; omega) rfl rfl rfl (run_l tabOk ?_) | refine gs_dt (by first | assumption | omega) ?_ | refine gs_df (by first | assumption | omega) ?_) <;> conv => whnf) | refine fin1 rfl rfl ?_))
  refine wl_C fn54 (pSearch bs A c t (fun b hb' => ⟨(hP.wf.rng b hb').1, (hP.wf.rng b hb').2.1⟩) hP.wf.up ht hl w hrow) rfl rfl rfl rfl rfl rfl rfl ?_
  rintro _ w2 ⟨i, ok, rfl, hf, hB2⟩
  refine ⟨_, rfl, run_l tabOk ?_⟩
  conv => whnf
  (repeat' (first | ((first | refine wl_add rfl rfl rfl rfl rfl rfl (by omega) (by omega) (run_l tabOk ?_) | refine wl_sub rfl rfl rfl rfl rfl rfl (by omega) (by omega) (run_l tabOk ?_) | refine wl_cvA tabOk rfl rfl rfl (by simp only [inK]; omega) rfl rfl rfl (run_l tabOk ?_) | refine gs_dt (by first | assumption | omega) ?_ | refine gs_df (by first | assumption | omega) ?_) <;> conv => whnf) | refine fin1 rfl rfl ?_))
  exact fin2 rfl rfl rfl ⟨i, ok, rfl, hf, hB2⟩
/-- A set's row; nil has none. -/
theorem pList {base g : Nat} {w : World} {bs : List Blk} {fp : List Nat} (hP : PSet base g w bs fp) :
    Calls Try.prog 47 #[.pointer (some ⟨g, 0, none⟩)] w fun e w' => ∃ A c, e = .returned (.slice A bs.length c) ∧ w.heap[g]? = some (.cells #[.slice A bs.length c] 76 (0, 0)) ∧ bs.length ≤ c ∧ RowR 2 dBlk w A bs ∧ Below w.heap.size w w' := by
  obtain ⟨V, hb, ho, rfl, hne⟩ := hP.ex
  obtain ⟨A, c, rfl, hlc, hrow⟩ := ho.row
  refine enterR (args := [.pointer (some ⟨g, 0, none⟩)]) tabOk Try.func47 rfl Try.ntmps47 rfl ?_; conv => whnf
  (repeat' (first | (refine wl_Lg tabOk hb rfl rfl rfl rfl rfl rfl rfl (run_l tabOk ?_); conv => whnf) | (refine wl_pnF tabOk rfl rfl rfl rfl rfl rfl (run_l tabOk ?_); conv => whnf) | (refine wl_pnT tabOk rfl rfl rfl rfl rfl rfl (run_l tabOk ?_); conv => whnf) | (refine wl_pqF tabOk rfl rfl rfl rfl rfl rfl (run_l tabOk ?_); conv => whnf) | (refine wl_pqT tabOk rfl rfl rfl rfl rfl rfl (run_l tabOk ?_); conv => whnf) | ((first | refine wl_add rfl rfl rfl rfl rfl rfl (by omega) (by omega) (run_l tabOk ?_) | refine wl_sub rfl rfl rfl rfl rfl rfl (by omega) (by omega) (run_l tabOk ?_) | refine wl_cvA tabOk rfl rfl rfl (by simp only [inK]; omega) rfl rfl rfl (run_l tabOk ?_) | refine gs_dt (by first | assumption | omega) ?_ | refine gs_df (by first | assumption | omega) ?_) <;> conv => whnf) | refine fin1 rfl rfl ?_))
  exact ⟨A, c, rfl, hb, hlc, hrow, Below.refl _ _⟩
end Go.Proofs.Ytjggjhgbobmkhaa

/- pile: Has, Len, All; math/bits.OnesCount64, TrailingZeros64. -/
namespace Go.Proofs.Ytjggjhgbobmkhaa
open Go.RowKit
set_option linter.unusedVariables false
set_option linter.unusedSimpArgs false
set_option maxRecDepth 100000
theorem rowB_f {w : World} {A : Option Addr} {bs : List Blk} (h : RowR 2 dBlk w A bs) (i : Nat) (hi : i < bs.length) : ∃ ad, A = some ad ∧ w.cell? (ad.add (i * 2)) = some (.int .i64 bs[i]!.a) ∧ w.cell? ⟨(ad.add (i * 2)).block, (ad.add (i * 2)).off + 1, none⟩ = some (.int .u64 (bs[i]!.w : Int)) := by
  obtain ⟨ad, e, h1, h2, _⟩ := rowB_at h i hi
  refine ⟨ad, e, ?_, ?_⟩
  · have : (ad.add (i * 2)).add 0 = ad.add (i * 2) := addr_add0 _
    rwa [this] at h1
  · rw [add_field _ _ _ (by omega)]
    rwa [add_add] at h2
theorem shr_u64 (w : Nat) (b : Int) (k : Nat) (hb : b = k) (hk : k < 64) : (w : Int) / 2 ^ min b.toNat IntKind.u64.bits = ((w >>> k : Nat) : Int) := by
  subst hb
  have : min ((k : Int)).toNat IntKind.u64.bits = k := by simp [IntKind.bits]; omega
  rw [this, Nat.shiftRight_eq_div_pow]
  simp
theorem shr_le (w k : Nat) (h : w < 18446744073709551616) : w >>> k < 18446744073709551616 := by
  rw [Nat.shiftRight_eq_div_pow]
  exact Nat.lt_of_le_of_lt (Nat.div_le_self _ _) h
end Go.Proofs.Ytjggjhgbobmkhaa

/- pile: slices.Insert, Add. -/
namespace Go.Proofs.Ytjggjhgbobmkhaa
open Go.RowKit
set_option linter.unusedVariables false
set_option linter.unusedSimpArgs false
set_option maxRecDepth 100000
theorem ins_cells {L p m q : List Value} {o1 o2 : Nat} (h2 : o2 = o1 + m.length) (hp : L.take o1 = p) (hL : o2 + q.length ≤ L.length) :
    (((L.take o1 ++ m ++ L.drop (o1 + m.length)).take o2 ++ q ++ (L.take o1 ++ m ++ L.drop (o1 + m.length)).drop (o2 + q.length)).take (o2 + q.length) = p ++ m ++ q) ∧
    ((L.take o1 ++ m ++ L.drop (o1 + m.length)).take o2 ++ q ++ (L.take o1 ++ m ++ L.drop (o1 + m.length)).drop (o2 + q.length)).length = L.length := by
  subst h2
  have l1 : (L.take o1).length = o1 := by simp; omega
  have e1 : (L.take o1 ++ m ++ L.drop (o1 + m.length)).take (o1 + m.length) = L.take o1 ++ m := by
    rw [List.take_append_of_le_length (by simp; omega), List.take_of_length_le (by simp; omega)]
  rw [e1]
  refine ⟨?_, ?_⟩
  · rw [List.take_append_of_le_length (by simp; omega), List.take_of_length_le (by simp; omega), hp]
  · simp; omega
theorem ins_cells2 {L p m q : List Value} {o1 o2 : Nat} (h2 : o2 = o1 + m.length) (hp : L.take o1 = p) (hL : o2 + q.length ≤ L.length) :
    (((L.take o2 ++ q ++ L.drop (o2 + q.length)).take o1 ++ m ++ (L.take o2 ++ q ++ L.drop (o2 + q.length)).drop (o1 + m.length)).take (o2 + q.length) = p ++ m ++ q) ∧
    ((L.take o2 ++ q ++ L.drop (o2 + q.length)).take o1 ++ m ++ (L.take o2 ++ q ++ L.drop (o2 + q.length)).drop (o1 + m.length)).length = L.length := by
  subst h2
  have l1 : (L.take (o1 + m.length)).length = o1 + m.length := by simp; omega
  have e1 : (L.take (o1 + m.length) ++ q ++ L.drop (o1 + m.length + q.length)).take o1 = p := by
    rw [List.append_assoc, List.take_append_of_le_length (by omega), List.take_take, Nat.min_eq_left (by omega), hp]
  have lp : p.length = o1 := by rw [← hp]; simp; omega
  have e2 : (L.take (o1 + m.length) ++ q ++ L.drop (o1 + m.length + q.length)).drop (o1 + m.length) = q ++ L.drop (o1 + m.length + q.length) := by
    rw [List.append_assoc, List.drop_append_of_le_length (by omega), List.drop_of_length_le (by omega)]
    rfl
  rw [e1, e2]
  refine ⟨?_, ?_⟩
  · rw [← List.append_assoc, List.take_append_of_le_length (by simp; omega), List.take_of_length_le (by simp; omega)]
  · simp; omega
set_option maxHeartbeats 8000000 in
theorem pInsert {base : Nat} {w : World} {V : Value} {bs : List Blk} (x : Blk) (ho : ownsB w base V bs) (i gv cv : Nat) (hi : i ≤ bs.length) (hv : w.heap[gv]? = some (.cells (blkC x).toArray 82 (0, 0))) (hne : V.ownBlock ≠ some gv) (hl : bs.length < 1099511627776) (hbase : base ≤ w.heap.size) :
    Calls Try.prog 53 #[V, .int .i64 i, .slice (some ⟨gv, 0, none⟩) 1 cv] w fun e w' => ∃ V', e = .returned V' ∧ ownsB w' base V' (bs.take i ++ x :: bs.drop i) ∧ Kept V.ownBlock.toList w w' ∧ (V'.ownBlock = V.ownBlock ∨ ∃ b, V'.ownBlock = some b ∧ w.heap.size ≤ b) := by
  obtain ⟨A, c, rfl, hlc, hrow⟩ := ho.row
  refine enterR (args := [.slice A bs.length c, .int .i64 i, .slice (some ⟨gv, 0, none⟩) 1 cv]) tabOk Try.func53 rfl Try.ntmps53 rfl ?_; conv => whnf
  (repeat' (first | ((first | refine wl_add rfl rfl rfl rfl rfl rfl (by omega) (by omega) (run_l tabOk ?_) | refine wl_sub rfl rfl rfl rfl rfl rfl (by omega) (by omega) (run_l tabOk ?_) | refine gs_dt (by first | assumption | omega) ?_ | refine gs_df (by first | assumption | omega) ?_) <;> conv => whnf) | refine fin1 rfl rfl ?_))
  refine wl_slL tabOk 82 2 rfl rfl rfl rfl rfl rfl rfl (by omega) (by omega) (run_l tabOk ?_); conv => whnf
  by_cases hin : i = bs.length
  · (repeat' (first | ((first | refine wl_add rfl rfl rfl rfl rfl rfl (by omega) (by omega) (run_l tabOk ?_) | refine wl_sub rfl rfl rfl rfl rfl rfl (by omega) (by omega) (run_l tabOk ?_) | refine gs_dt (by first | assumption | omega) ?_ | refine gs_df (by first | assumption | omega) ?_) <;> conv => whnf) | refine fin1 rfl rfl ?_))
    refine wl_ap tabOk 82 2 16 ho hv rfl rfl rfl rfl rfl rfl rfl rfl rfl rfl rfl rfl (by simp [blkC, Value.oneCell']) (by omega) (by omega) (by omega) ?_
    intro A7 cap7 U4 hown hgr hob
    refine run_l tabOk ?_
    conv => whnf
    (repeat' (first | ((first | refine wl_add rfl rfl rfl rfl rfl rfl (by omega) (by omega) (run_l tabOk ?_) | refine wl_sub rfl rfl rfl rfl rfl rfl (by omega) (by omega) (run_l tabOk ?_) | refine gs_dt (by first | assumption | omega) ?_ | refine gs_df (by first | assumption | omega) ?_) <;> conv => whnf) | refine fin1 rfl rfl ?_))
    have hnew : flatB bs ++ blkC x = flatB (bs.take i ++ x :: bs.drop i) := by
      rw [hin, List.take_length, List.drop_length, flatB_app, flatB_one]
    have hln : (bs.take i ++ x :: bs.drop i).length = bs.length + 1 := by rw [hin, List.take_length, List.drop_length]; simp
    refine ⟨_, rfl, ?_, (Kept.refl _ _).grown hgr (fun g e => .inl (by rw [e]; simp)), ?_⟩
    · show World.ownsRow _ _ _ _ _ _ _
      rw [hln, ← hnew]
      exact hown
    · rcases hob with h1 | h1
      · exact .inl h1
      · exact .inr ⟨_, h1, Nat.le_refl _⟩
  · have hlt : i < bs.length := by omega
    have hln : (bs.take i ++ x :: bs.drop i).length = bs.length + 1 := by simp; omega
    obtain ⟨hfl, ⟨_, h0⟩ | ⟨gb, cap, cur, e1, hgb, hcur, hncap, hcapm, hcs, htake⟩⟩ := ho
    · omega
    simp only [Value.slice.injEq, true_and] at e1
    obtain ⟨rfl, rfl⟩ := e1
    obtain ⟨cur, rfl⟩ : ∃ l : List Value, cur = l.toArray := ⟨cur.toList, by simp⟩
    simp only [List.size_toArray] at hcs htake
    have hgv : gv ≠ gb := fun e => hne (by rw [e]; rfl)
    have hsrc : ∀ j v, (flatB (bs.drop i))[j]? = some v → w.cell? ((⟨gb, i * 2, none⟩ : Addr).add j) = some v := fun j v hv' => by
      rw [← flatB_drop bs i hi, List.getElem?_drop, ← htake, List.getElem?_take] at hv'
      split at hv'
      · have e : (⟨gb, i * 2, none⟩ : Addr).add j = ⟨gb, i * 2 + j, none⟩ := by unfold Addr.add; split <;> simp_all
        rw [e]
        exact cell_blk hcur (by simpa using hv')
      · cases hv'
    have hsrcx : ∀ {W : World}, W.heap[gv]? = some (.cells (blkC x).toArray 82 (0, 0)) → ∀ j v, (blkC x)[j]? = some v → W.cell? ((⟨gv, 0, none⟩ : Addr).add j) = some v := fun hW j v hv' => by
      rw [add_zero]
      exact cell_blk hW (by simpa using hv')
    have honex : ∀ v ∈ blkC x, v.oneCell' = true := by simp [blkC, Value.oneCell']
    have hdl : (flatB (bs.drop i)).length = (bs.length - i) * 2 := by rw [flatB_len]; simp
    have hfin : flatB (bs.take i ++ x :: bs.drop i) = flatB (bs.take i) ++ blkC x ++ flatB (bs.drop i) := by rw [flatB_app, flatB_cons, List.append_assoc]
    have htl : (flatB (bs.take i)).length = i * 2 := by rw [flatB_len]; simp; omega
    have htk2 : cur.take (i * 2) = flatB (bs.take i) := by
      rw [← flatB_take bs i hi, ← htake, List.take_take, Nat.min_eq_left (by omega)]
    (repeat' (first | ((first | refine wl_add rfl rfl rfl rfl rfl rfl (by omega) (by omega) (run_l tabOk ?_) | refine wl_sub rfl rfl rfl rfl rfl rfl (by omega) (by omega) (run_l tabOk ?_) | refine gs_dt (by first | assumption | omega) ?_ | refine gs_df (by first | assumption | omega) ?_) <;> conv => whnf) | refine fin1 rfl rfl ?_))
    refine wl_cap tabOk 82 2 rfl rfl rfl rfl rfl rfl rfl rfl rfl (run_l tabOk ?_); conv => whnf
    by_cases hg : c < bs.length + 1
    · (repeat' (first | ((first | refine wl_add rfl rfl rfl rfl rfl rfl (by omega) (by omega) (run_l tabOk ?_) | refine wl_sub rfl rfl rfl rfl rfl rfl (by omega) (by omega) (run_l tabOk ?_) | refine gs_dt (by first | assumption | omega) ?_ | refine gs_df (by first | assumption | omega) ?_) <;> conv => whnf) | refine fin1 rfl rfl ?_))
      refine wl_slHr tabOk 82 2 rfl (by omega) rfl rfl rfl rfl rfl rfl rfl (run_l tabOk ?_); conv => whnf
      (repeat' (first | ((first | refine wl_add rfl rfl rfl rfl rfl rfl (by omega) (by omega) (run_l tabOk ?_) | refine wl_sub rfl rfl rfl rfl rfl rfl (by omega) (by omega) (run_l tabOk ?_) | refine gs_dt (by first | assumption | omega) ?_ | refine gs_df (by first | assumption | omega) ?_) <;> conv => whnf) | refine fin1 rfl rfl ?_))
      refine wl_apz tabOk 82 2 16 (m := bs.length + 1 - i) rfl rfl rfl rfl rfl (by omega) rfl rfl Try.underlying3 rfl rfl rfl rfl rfl rfl hcur rfl (by omega) (by omega) (by omega) (by omega) (by omega) ?_
      intro cap2 w1 more hn1 hc1 hc2 hc3
      refine run_l tabOk ?_
      conv => whnf
      have hge : i < cap2 := by omega
      generalize hL : cur.take (i * 2) ++ (List.replicate (bs.length + 1 - i) [Value.int .i64 0, Value.int .u64 0]).flatten ++ more = L at hn1 hc3
      have hLt : L.take (0 + i * 2) = flatB (bs.take i) := by
        rw [← hL, List.append_assoc, List.take_append_of_le_length (by rw [List.length_take]; omega), List.take_take, Nat.zero_add, Nat.min_self, htk2]
      have hb1 := hn1.blk
      (repeat' (first | ((first | refine wl_add rfl rfl rfl rfl rfl rfl (by omega) (by omega) (run_l tabOk ?_) | refine wl_sub rfl rfl rfl rfl rfl rfl (by omega) (by omega) (run_l tabOk ?_) | refine gs_dt (by first | assumption | omega) ?_ | refine gs_df (by first | assumption | omega) ?_) <;> conv => whnf) | refine fin1 rfl rfl ?_))
      refine wl_slLr tabOk 82 2 (hn' := i) rfl (cut_in (by omega)) rfl rfl (by omega) rfl rfl rfl rfl rfl rfl rfl (run_l tabOk ?_); conv => whnf
      (repeat' (first | ((first | refine wl_add rfl rfl rfl rfl rfl rfl (by omega) (by omega) (run_l tabOk ?_) | refine wl_sub rfl rfl rfl rfl rfl rfl (by omega) (by omega) (run_l tabOk ?_) | refine gs_dt (by first | assumption | omega) ?_ | refine gs_df (by first | assumption | omega) ?_) <;> conv => whnf) | refine fin1 rfl rfl ?_))
      refine wl_cp tabOk 82 2 16 (m := 1) (blkC x) hb1 rfl rfl rfl rfl rfl rfl rfl (by omega) rfl rfl rfl rfl (hsrcx (hn1.old hv)) (by simp [blkC]; omega) honex ?_
      intro w2 hp2
      refine run_l tabOk ?_
      conv => whnf
      refine wc_qt 8 8 (stable_Bw _) tabOk mixed (by kernel_rfl) rfl (Below.refl _ _) ?_; conv => whnf
      (repeat' (first | (refine wq_slLr tabOk 82 2 (hn' := i + 1) (by omega) (cut_in (by omega)) rfl rfl (by omega) rfl rfl rfl rfl rfl rfl rfl (run_q tabOk ?_); (conv => whnf)) | (refine wq_slLr tabOk 82 2 (hn' := i) rfl (cut_in (by omega)) rfl rfl (by omega) rfl rfl rfl rfl rfl rfl rfl (run_q tabOk ?_); (conv => whnf)) | ((first | refine wq_add rfl rfl rfl rfl rfl rfl (by omega) (by omega) (run_q tabOk ?_) | refine wq_sub rfl rfl rfl rfl rfl rfl (by omega) (by omega) (run_q tabOk ?_) | refine gs_dt (by first | assumption | omega) ?_ | refine gs_df (by first | assumption | omega) ?_) <;> conv => whnf)))
      intro w3 _ hB3
      conv => whnf
      have hgbl := blk_lt hcur
      have hcur2 : w2.heap[gb]? = some (.cells cur.toArray 82 (0, 0)) := hp2.old (hn1.old hcur) (by omega)
      have hB03 : Below w.heap.size w w3 := bup (hp2.below hn1.below (Nat.le_refl _) (by have := hn1.size; omega)) hB3
      refine wl_cp tabOk 82 2 16 (m := bs.length - i) (flatB (bs.drop i)) (blk_up hB3 hp2.blk) rfl rfl rfl rfl rfl rfl rfl (by omega) rfl rfl rfl hdl (fun j v hv' => by rw [Nat.zero_add]; exact cell_up hB03 (hsrc j v hv')) (by simp [blkC, hdl]; omega) (oneB _) ?_
      intro w4 hp4
      refine run_l tabOk ?_
      conv => whnf
      (repeat' (first | ((first | refine wl_add rfl rfl rfl rfl rfl rfl (by omega) (by omega) (run_l tabOk ?_) | refine wl_sub rfl rfl rfl rfl rfl rfl (by omega) (by omega) (run_l tabOk ?_) | refine gs_dt (by first | assumption | omega) ?_ | refine gs_df (by first | assumption | omega) ?_) <;> conv => whnf) | refine fin1 rfl rfl ?_))
      obtain ⟨k1, k2⟩ := ins_cells (L := L) (m := blkC x) (q := flatB (bs.drop i)) (o1 := 0 + i * 2) (o2 := 0 + (i + 1) * 2) (by simp [blkC]; omega) hLt (by rw [hdl]; omega)
      have hk4 : Kept [] w w4 := (Kept.of hB03).put hp4 (.inr (Nat.le_refl _))
      refine ⟨_, rfl, ⟨flatB_len _, .inr ⟨w.heap.size, cap2, _, ?_, hbase, hp4.blk, by omega, hc2, by simpa using k2.trans hc3, ?_⟩⟩, hk4.more (by simp), .inr ⟨w.heap.size, rfl, Nat.le_refl _⟩⟩
      · rw [hln, show i + (bs.length + 1 - i) = bs.length + 1 by omega]
      · have e : (bs.take i ++ x :: bs.drop i).length * 2 = 0 + (i + 1) * 2 + (flatB (bs.drop i)).length := by rw [hdl, hln]; omega
        rw [e, hfin]
        exact k1
    · (repeat' (first | ((first | refine wl_add rfl rfl rfl rfl rfl rfl (by omega) (by omega) (run_l tabOk ?_) | refine wl_sub rfl rfl rfl rfl rfl rfl (by omega) (by omega) (run_l tabOk ?_) | refine gs_dt (by first | assumption | omega) ?_ | refine gs_df (by first | assumption | omega) ?_) <;> conv => whnf) | refine fin1 rfl rfl ?_))
      refine wl_slHr tabOk 82 2 (hn' := bs.length + 1) (by omega) (by omega) rfl rfl rfl rfl rfl rfl rfl (run_l tabOk ?_); conv => whnf
      (repeat' (first | ((first | refine wl_add rfl rfl rfl rfl rfl rfl (by omega) (by omega) (run_l tabOk ?_) | refine wl_sub rfl rfl rfl rfl rfl rfl (by omega) (by omega) (run_l tabOk ?_) | refine gs_dt (by first | assumption | omega) ?_ | refine gs_df (by first | assumption | omega) ?_) <;> conv => whnf) | refine fin1 rfl rfl ?_))
      refine wl_slLr tabOk 82 2 (hn' := i + 1) (by omega) (cut_in (by omega)) rfl rfl (by omega) rfl rfl rfl rfl rfl rfl rfl (run_l tabOk ?_); conv => whnf
      have hov : (callFunc 63 [Value.slice (some ⟨gv, 0, none⟩) 1 cv, Value.slice (some ⟨gb, 0 + (i + 1) * 2, none⟩) (bs.length + 1 - (i + 1)) (c - (i + 1))].toArray).run Try.prog w = .ok (.value (.bool false)) w := by
        rw [run_callFunc_extern Try.func63 (by kernel_rfl) (by kernel_rfl) (by kernel_rfl) (e := Extern.SlicesOverlaps.overlaps #[74, 74] #[4]) (by kernel_rfl)]
        have := Lib.run_overlaps_apart (P := Try.prog) w 74 4 82 Try.underlying74 2 (fun w => (sliceT_ok (w := w) tabOk (t := 74) (e := 82) (s := 2) rfl).2)
          ⟨gv, 0, none⟩ ⟨gb, 0 + (i + 1) * 2, none⟩ 1 cv (bs.length + 1 - (i + 1)) (c - (i + 1)) hgv 82 82 (blkC x).length cur.length (by simp [World.shape?, hv]) (by simp [World.shape?, hcur]) (by omega) (by simp [World.frozen?, hv]) (by simp [World.frozen?, hv])
        show ((Extern.SlicesOverlaps.overlaps #[74, 74] #[4] #[Value.slice (some ⟨gv, 0, none⟩) 1 cv, Value.slice (some ⟨gb, 0 + (i + 1) * 2, none⟩) (bs.length + 1 - (i + 1)) (c - (i + 1))]).run Try.prog w).andThen _ = _
        rw [this]
        rfl
      refine wl_ext hov rfl rfl rfl rfl rfl rfl rfl (run_l tabOk ?_); conv => whnf
      (repeat' (first | ((first | refine wl_add rfl rfl rfl rfl rfl rfl (by omega) (by omega) (run_l tabOk ?_) | refine wl_sub rfl rfl rfl rfl rfl rfl (by omega) (by omega) (run_l tabOk ?_) | refine gs_dt (by first | assumption | omega) ?_ | refine gs_df (by first | assumption | omega) ?_) <;> conv => whnf) | refine fin1 rfl rfl ?_))
      refine wc_qt 8 8 (stable_Bw _) tabOk mixed (by kernel_rfl) rfl (Below.refl _ _) ?_; conv => whnf
      (repeat' (first | (refine wq_slLr tabOk 82 2 (hn' := i + 1) (by omega) (cut_in (by omega)) rfl rfl (by omega) rfl rfl rfl rfl rfl rfl rfl (run_q tabOk ?_); (conv => whnf)) | (refine wq_slLr tabOk 82 2 (hn' := i) rfl (cut_in (by omega)) rfl rfl (by omega) rfl rfl rfl rfl rfl rfl rfl (run_q tabOk ?_); (conv => whnf)) | ((first | refine wq_add rfl rfl rfl rfl rfl rfl (by omega) (by omega) (run_q tabOk ?_) | refine wq_sub rfl rfl rfl rfl rfl rfl (by omega) (by omega) (run_q tabOk ?_) | refine gs_dt (by first | assumption | omega) ?_ | refine gs_df (by first | assumption | omega) ?_) <;> conv => whnf)))
      intro w3 _ hB3
      conv => whnf
      refine wl_cp tabOk 82 2 16 (m := bs.length - i) (flatB (bs.drop i)) (blk_up hB3 hcur) rfl rfl rfl rfl rfl rfl rfl (by omega) rfl rfl rfl hdl (fun j v hv' => by rw [Nat.zero_add]; exact cell_up hB3 (hsrc j v hv')) (by rw [hdl]; omega) (oneB _) ?_
      intro w4 hp4
      refine run_l tabOk ?_
      conv => whnf
      (repeat' (first | ((first | refine wl_add rfl rfl rfl rfl rfl rfl (by omega) (by omega) (run_l tabOk ?_) | refine wl_sub rfl rfl rfl rfl rfl rfl (by omega) (by omega) (run_l tabOk ?_) | refine gs_dt (by first | assumption | omega) ?_ | refine gs_df (by first | assumption | omega) ?_) <;> conv => whnf) | refine fin1 rfl rfl ?_))
      refine wl_slLr tabOk 82 2 (hn' := i) rfl (cut_in (by omega)) rfl rfl (by omega) rfl rfl rfl rfl rfl rfl rfl (run_l tabOk ?_); conv => whnf
      (repeat' (first | ((first | refine wl_add rfl rfl rfl rfl rfl rfl (by omega) (by omega) (run_l tabOk ?_) | refine wl_sub rfl rfl rfl rfl rfl rfl (by omega) (by omega) (run_l tabOk ?_) | refine gs_dt (by first | assumption | omega) ?_ | refine gs_df (by first | assumption | omega) ?_) <;> conv => whnf) | refine fin1 rfl rfl ?_))
      refine wl_cp tabOk 82 2 16 (m := 1) (blkC x) hp4.blk rfl rfl rfl rfl rfl rfl rfl (by omega) rfl rfl rfl rfl (hsrcx (hp4.old (blk_up hB3 hv) hgv)) (by simp [blkC, hdl]; omega) honex ?_
      intro w5 hp5
      refine run_l tabOk ?_
      conv => whnf
      (repeat' (first | ((first | refine wl_add rfl rfl rfl rfl rfl rfl (by omega) (by omega) (run_l tabOk ?_) | refine wl_sub rfl rfl rfl rfl rfl rfl (by omega) (by omega) (run_l tabOk ?_) | refine gs_dt (by first | assumption | omega) ?_ | refine gs_df (by first | assumption | omega) ?_) <;> conv => whnf) | refine fin1 rfl rfl ?_))
      obtain ⟨k1, k2⟩ := ins_cells2 (L := cur) (p := flatB (bs.take i)) (m := blkC x) (q := flatB (bs.drop i)) (o1 := 0 + i * 2) (o2 := 0 + (i + 1) * 2) (by simp [blkC]; omega) (by rw [Nat.zero_add]; exact htk2) (by rw [hdl]; omega)
      have hk5 : Kept [gb] w w5 := ((Kept.of hB3).put hp4 (.inl (by simp))).put hp5 (.inl (by simp))
      refine ⟨_, rfl, ⟨flatB_len _, .inr ⟨gb, c, _, ?_, hgb, hp5.blk, by omega, hcapm, by simpa using k2.trans hcs, ?_⟩⟩, hk5, .inl rfl⟩
      · rw [hln]
      · have e : (bs.take i ++ x :: bs.drop i).length * 2 = 0 + (i + 1) * 2 + (flatB (bs.drop i)).length := by rw [hdl, hln]; omega
        rw [e, hfin]
        exact k1
end Go.Proofs.Ytjggjhgbobmkhaa

/- pile: Add, Of. -/
namespace Go.Proofs.Ytjggjhgbobmkhaa
open Go.RowKit
set_option linter.unusedVariables false
set_option linter.unusedSimpArgs false
set_option maxRecDepth 100000
set_option linter.unnecessarySimpa false
theorem add_off3 (g j k : Nat) : (⟨((⟨g, 0, none⟩ : Addr).add j).block, ((⟨g, 0, none⟩ : Addr).add j).off + k, none⟩ : Addr) = ⟨g, j + k, none⟩ := by rw [add_zero]
theorem flatB_set : ∀ (bs : List Blk) (i w : Nat), i < bs.length → (flatB bs).set (i * 2 + 1) (.int .u64 (w : Int)) = flatB (bs.set i ⟨bs[i]!.a, w⟩)
  | [], i, w, h => by simp at h
  | b :: bs, 0, w, h => by simp [flatB, blkC]
  | b :: bs, i + 1, w, h => by
    have e : (i + 1) * 2 + 1 = (i * 2 + 1) + 2 := by omega
    have ih := flatB_set bs i w (by simpa using h)
    rw [e, flatB_cons]
    show ([Value.int .i64 b.a, Value.int .u64 (b.w : Int)] ++ flatB bs).set (i * 2 + 1 + 2) _ = _
    simp only [List.cons_append, List.nil_append, List.set_cons_succ]
    rw [ih]
    simp [flatB, blkC]
theorem ins_set (bs : List Blk) (i : Nat) (x y : Blk) (hi : i ≤ bs.length) : (bs.take i ++ x :: bs.drop i).set i y = bs.take i ++ y :: bs.drop i := by
  have hl : (bs.take i).length = i := by simp; omega
  rw [List.set_append]
  rw [if_neg (by omega), hl]
  simp
theorem ownsB_set {base g0 : Nat} {w w1 : World} {bs : List Blk} {c i v : Nat} {cur : List Value} (ho : ownsB w base (.slice (some ⟨g0, 0, none⟩) bs.length c) bs) (hcur : w.heap[g0]? = some (.cells cur.toArray 82 (0, 0))) (hi : i < bs.length)
    (hp : Put w w1 g0 (cur.set (i * 2 + 1) (.int .u64 (v : Int))) 82) : ownsB w1 base (.slice (some ⟨g0, 0, none⟩) (bs.set i ⟨bs[i]!.a, v⟩).length c) (bs.set i ⟨bs[i]!.a, v⟩) := by
  obtain ⟨hfl, ⟨h0, _⟩ | ⟨gb, cap, cur2, e1, hgb, hcur2, hncap, hcapm, hcs, htake⟩⟩ := ho
  · cases h0
  · simp only [Value.slice.injEq, Option.some.injEq, Addr.mk.injEq, and_true, true_and] at e1
    obtain ⟨rfl, rfl⟩ := e1
    rw [hcur] at hcur2
    simp only [Option.some.injEq, Obj.cells.injEq, and_true, true_and] at hcur2
    subst hcur2
    refine ⟨flatB_len _, .inr ⟨g0, c, _, by simp, hgb, hp.blk, by simpa using hncap, hcapm, by simpa using hcs, ?_⟩⟩
    rw [← flatB_set bs i v hi]
    have htake : cur.take (bs.length * 2) = flatB bs := by simpa using htake
    rw [← htake]
    simp [List.take_set]
theorem ownsB.blkform {w : World} {base : Nat} {A : Option Addr} {c : Nat} {bs : List Blk} (ho : ownsB w base (.slice A bs.length c) bs) (h : 0 < bs.length) : ∃ (gb : Nat) (cur : List Value), A = some ⟨gb, 0, none⟩ ∧ w.heap[gb]? = some (.cells cur.toArray 82 (0, 0)) ∧ cur.length = c * 2 ∧ bs.length ≤ c := by
  obtain ⟨hfl, ⟨h9, h8⟩ | ⟨gb, cap, cur, e1, hgb, hcur, hncap, hcapm, hcs, htake⟩⟩ := ho
  · omega
  · obtain ⟨cur, rfl⟩ : ∃ l : List Value, cur = l.toArray := ⟨cur.toList, by simp⟩
    simp only [Value.slice.injEq, true_and] at e1
    obtain ⟨rfl, rfl⟩ := e1
    exact ⟨gb, cur, rfl, hcur, by simpa using hcs, hncap⟩
theorem wl_SFr {P : Program} {T : Nat → Option TI} {n : Nat} {Q : Post} {F : Fm} {w : World} {ops : Array Oper} {rest : List Oper} {o : Oper} (hT : TabOk P T) (k : Nat) {t t' : TypeId} {x y : Operand} {i : TI} {g j : Nat} {cs : List Value} {v : Value} (hb : w.heap[g]? = some (.cells cs.toArray t' (0, 0))) (hop : o.op = .store t x y) (hx : ev F x = .pointer (some ⟨((⟨g, 0, none⟩ : Addr).add j).block, ((⟨g, 0, none⟩ : Addr).add j).off + k, none⟩)) (hy : ev F y = v)
    (hi : T t = some i) (h1 : i.size = 1) (hv : v.oneCell' = true) (hoff : j + k < cs.length) (hg : o.guard = none) (hd : o.dst = none)
    (kk : ∀ w1, Put w w1 g (cs.set (j + k) v) t' → wl P n ops rest Q F w1) : wl P n ops (o :: rest) Q F w :=
  wl_S (off := j + k) hT hb hop (by rw [hx, add_off3]) hy hi h1 hv hoff hg hd kk
theorem shl_one (n k : Nat) (b : Int) (hb : b = k) (hk : k < 64) : IntKind.u64.wrap (1 * 2 ^ min b.toNat IntKind.u64.bits) = ((2 ^ k : Nat) : Int) := by
  subst hb
  have e : min ((k : Int)).toNat IntKind.u64.bits = k := by simp [IntKind.bits]; omega
  have h : 2 ^ k < 18446744073709551616 := Nat.pow_lt_pow_right (a := 2) (by omega) hk
  have e2 : (1 : Int) * 2 ^ k = ((2 ^ k : Nat) : Int) := by simp
  rw [e, e2]
  generalize 2 ^ k = p at h ⊢
  rw [IntKind.wrap_u64]
  omega
theorem and_pow (w k : Nat) : decide (((w &&& 2 ^ k : Nat) : Int) = 0) = !w.testBit k := by
  have h : w &&& 2 ^ k = if w.testBit k then 2 ^ k else 0 := by
    refine Nat.eq_of_testBit_eq fun j => ?_
    rw [Nat.testBit_and, Nat.testBit_two_pow]
    by_cases e : k = j
    · subst e; cases hw : w.testBit k <;> simp [hw, Nat.testBit_two_pow]
    · split <;> simp [e, Nat.testBit_two_pow]
  have hp := Nat.two_pow_pos k
  rw [h]
  cases w.testBit k
  · rfl
  · have : ¬ (((if true = true then 2 ^ k else 0 : Nat) : Int) = 0) := by rw [if_pos rfl]; omega
    rw [decide_eq_false this]; rfl
/-- What Add leaves. -/
structure AddR (base g : Nat) (w : World) (bs : List Blk) (fp : List Nat) (n : Int) (e : Ending) (w' : World) (bs' : List Blk) (fp' : List Nat) : Prop where
  ret : e = .returned (.bool (decide (0 ≤ n) && !memB bs n.toNat))
  set : PSet base g w' bs' fp'
  kept : Kept fp w w'
  new : ∀ b ∈ fp', b ∈ fp ∨ w.heap.size ≤ b
  mem : ∀ m : Nat, memB bs' m = (memB bs m || decide (n = m))
  len : bs'.length ≤ bs.length + 1
set_option maxHeartbeats 8000000 in
theorem pAdd {base g : Nat} {w : World} {bs : List Blk} {fp : List Nat} (hP : PSet base g w bs fp) (n : Int) (hn : n ≤ 9223372036854775807) (hl : bs.length < 1099511627776) (hbase : base ≤ w.heap.size) :
    Calls Try.prog 37 #[.pointer (some ⟨g, 0, none⟩), .int .i64 n] w fun e w' => ∃ bs' fp', AddR base g w bs fp n e w' bs' fp' := by
  obtain ⟨V, hb, ho, hfp, hne⟩ := hP.ex
  obtain ⟨A, c, rfl, hlc, hrow⟩ := ho.row
  refine enterR (args := [.pointer (some ⟨g, 0, none⟩), .int .i64 n]) tabOk Try.func37 rfl Try.ntmps37 rfl ?_; conv => whnf
  by_cases h0 : n < 0
  · (repeat' (first | (refine wl_pnF tabOk rfl rfl rfl rfl rfl rfl (run_l tabOk ?_); conv => whnf) | (refine wl_pnT tabOk rfl rfl rfl rfl rfl rfl (run_l tabOk ?_); conv => whnf) | (refine wl_pqF tabOk rfl rfl rfl rfl rfl rfl (run_l tabOk ?_); conv => whnf) | (refine wl_pqT tabOk rfl rfl rfl rfl rfl rfl (run_l tabOk ?_); conv => whnf) | ((first | refine wl_rem rfl rfl rfl rfl rfl rfl (by omega) (by omega) (fun r hr hr0 hr1 hr2 => run_l tabOk ?_) | refine wl_quo rfl rfl rfl rfl rfl rfl (by omega) (by omega) (by simp only [inK]; omega) (run_l tabOk ?_) | refine gs_dt (by first | assumption | omega) ?_) <;> conv => whnf) | refine fin1 rfl rfl ?_))
    exact ⟨bs, fp, ⟨by rw [decide_eq_false (by omega : ¬ 0 ≤ n)]; rfl, hP, Kept.refl _ _, fun b hb => .inl hb, fun m => by rw [decide_eq_false (by omega : ¬ n = m), Bool.or_false], by omega⟩⟩
  obtain ⟨m, rfl⟩ : ∃ m : Nat, n = m := ⟨n.toNat, by omega⟩
  (repeat' (first | (refine wl_pnF tabOk rfl rfl rfl rfl rfl rfl (run_l tabOk ?_); conv => whnf) | (refine wl_pnT tabOk rfl rfl rfl rfl rfl rfl (run_l tabOk ?_); conv => whnf) | (refine wl_pqF tabOk rfl rfl rfl rfl rfl rfl (run_l tabOk ?_); conv => whnf) | (refine wl_pqT tabOk rfl rfl rfl rfl rfl rfl (run_l tabOk ?_); conv => whnf) | ((first | refine wl_rem rfl rfl rfl rfl rfl rfl (by omega) (by omega) (fun r hr hr0 hr1 hr2 => run_l tabOk ?_) | refine wl_quo rfl rfl rfl rfl rfl rfl (by omega) (by omega) (by simp only [inK]; omega) (run_l tabOk ?_) | refine gs_dt (by first | assumption | omega) ?_) <;> conv => whnf) | refine fin1 rfl rfl ?_))
  refine wl_C fn40 (pFind hP ((m : Int) / 64) (by omega) (by omega)) rfl rfl rfl rfl rfl rfl rfl ?_
  rintro _ w2 ⟨i, ok, rfl, hf, hB⟩
  refine ⟨_, rfl, run_l tabOk ?_⟩
  conv => whnf
  obtain ⟨hi, hlo, hhi, hok⟩ := hf
  have hb2 := blk_up hB hb
  have ho2 : ownsB w2 base (.slice A bs.length c) bs := ho.keep fun b e => hB.block b (ho.lt b e).2
  have hpow : 2 ^ (m % 64) < 18446744073709551616 := Nat.pow_lt_pow_right (a := 2) (by omega) (Nat.mod_lt _ (by omega))
  cases ok
  · have hhi2 : ∀ j, i ≤ j → j < bs.length → ((m / 64 : Nat) : Int) < bs[j]!.a := fun j h1 h2 => by
      have h3 := hhi j h1 h2
      rcases Nat.lt_or_ge i j with h4 | h4
      · have := hhi i (Nat.le_refl _) (by omega)
        have := hP.wf.up i j h4 h2
        omega
      · have : j = i := by omega
        subst this
        rw [decide_eq_true h2] at hok
        have h4 : ¬ bs[j]!.a = (m : Int) / 64 := by simpa using hok.symm
        omega
    (repeat' (first | (refine wl_Lg tabOk hb2 rfl rfl rfl rfl rfl rfl rfl (run_l tabOk ?_); conv => whnf) | ((first | refine wl_rem rfl rfl rfl rfl rfl rfl (by omega) (by omega) (fun r hr hr0 hr1 hr2 => run_l tabOk ?_) | refine wl_quo rfl rfl rfl rfl rfl rfl (by omega) (by omega) (by simp only [inK]; omega) (run_l tabOk ?_) | refine gs_dt (by first | assumption | omega) ?_) <;> conv => whnf) | refine fin1 rfl rfl ?_))
    refine wl_bs tabOk 82 2 rfl rfl rfl rfl rfl rfl rfl rfl rfl rfl ?_
    intro gv w3 hn3
    refine run_l tabOk ?_
    conv => whnf
    have hvb : w3.heap[gv]? = some (.cells (blkC ⟨((m / 64 : Nat) : Int), 0⟩).toArray 82 (0, 0)) := hn3.blk
    have ho3 : ownsB w3 base (.slice A bs.length c) bs := ho2.keep fun b e => hn3.below.block b (ho2.lt b e).2
    refine wl_C fn53 (pInsert ⟨((m / 64 : Nat) : Int), 0⟩ ho3 i gv 1 hi hvb (fun e => by have := (ho2.lt gv e).2; have := hn3.at_; omega) hl (by have := hB.size; have := hn3.size; omega)) rfl rfl rfl rfl rfl rfl rfl ?_
    rintro _ w4 ⟨V4, rfl, ho4, hk4, hob4⟩
    obtain ⟨A4, c4, rfl, hlc4, _⟩ := ho4.row
    refine ⟨_, rfl, run_l tabOk ?_⟩
    conv => whnf
    have hn32 := hn3.size
    have hBs := hB.size
    have hB3 : Below w.heap.size w w3 := bup hB hn3.below
    have hg4 : w4.heap[g]? = some (.cells #[.slice A bs.length c] 76 (0, 0)) := hk4.blk (hn3.old hb2) (by simp; exact fun e => hne e)
    (repeat' (first | (refine wl_Lg tabOk hg4 rfl rfl rfl rfl rfl rfl rfl (run_l tabOk ?_); conv => whnf) | ((first | refine wl_rem rfl rfl rfl rfl rfl rfl (by omega) (by omega) (fun r hr hr0 hr1 hr2 => run_l tabOk ?_) | refine wl_quo rfl rfl rfl rfl rfl rfl (by omega) (by omega) (by simp only [inK]; omega) (run_l tabOk ?_) | refine gs_dt (by first | assumption | omega) ?_) <;> conv => whnf) | refine fin1 rfl rfl ?_))
    refine wl_S (off := 0) tabOk hg4 rfl rfl rfl rfl rfl rfl (by simp) rfl rfl ?_
    intro w5 hp5
    refine run_l tabOk ?_
    conv => whnf
    have hln : (bs.take i ++ (⟨((m / 64 : Nat) : Int), 0⟩ : Blk) :: bs.drop i).length = bs.length + 1 := by simp; omega
    have hgl := blk_lt hb
    have hne5 : (Value.slice A4 (bs.take i ++ (⟨((m / 64 : Nat) : Int), 0⟩ : Blk) :: bs.drop i).length c4).ownBlock ≠ some g := fun e => by
      rcases hob4 with h1 | ⟨b, h1, h2⟩
      · exact hne (h1.symm.trans e)
      · rw [e] at h1; cases h1; omega
    have hb5 : w5.heap[g]? = some (.cells #[.slice A4 (bs.take i ++ (⟨((m / 64 : Nat) : Int), 0⟩ : Blk) :: bs.drop i).length c4] 76 (0, 0)) := hp5.blk
    have ho5 := ho4.keep (w1 := w5) fun b e => hp5.grown.block b (ho4.lt b e).2 (fun e2 => hne5 (by rw [e, e2]))
    have hk5 : Kept fp w w5 := ((Kept.of hB3).trans hk4 (fun b hb' => .inl (by rw [hfp]; exact List.mem_cons_of_mem _ hb'))).put hp5 (.inl (by rw [hfp]; simp))
    have hnew5 : ∀ b, (Value.slice A4 (bs.take i ++ (⟨((m / 64 : Nat) : Int), 0⟩ : Blk) :: bs.drop i).length c4).ownBlock = some b → b ∈ fp ∨ w.heap.size ≤ b := fun b e => by
      rcases hob4 with h1 | ⟨b', h1, h2⟩
      · exact .inl (by rw [hfp, ← h1, e]; simp)
      · rw [e] at h1; cases h1; exact .inr (by omega)
    have hi5 : i < (bs.take i ++ (⟨((m / 64 : Nat) : Int), 0⟩ : Blk) :: bs.drop i).length := by omega
    have hlen5 : (bs.take i ++ (⟨((m / 64 : Nat) : Int), 0⟩ : Blk) :: bs.drop i).length ≤ bs.length + 1 := by omega
    have hx : (bs.take i ++ (⟨((m / 64 : Nat) : Int), 0⟩ : Blk) :: bs.drop i)[i]! = ⟨((m / 64 : Nat) : Int), 0⟩ := by rw [insB_get _ _ _ hi (by omega), if_neg (by omega), if_pos rfl]
    have hadd := add_new hP.wf hi (n := m) (fun j hj => by have := hlo j hj; omega) hhi2 (by omega)
    have hres5 : WFB ((bs.take i ++ (⟨((m / 64 : Nat) : Int), 0⟩ : Blk) :: bs.drop i).set i ⟨(bs.take i ++ (⟨((m / 64 : Nat) : Int), 0⟩ : Blk) :: bs.drop i)[i]!.a, (bs.take i ++ (⟨((m / 64 : Nat) : Int), 0⟩ : Blk) :: bs.drop i)[i]!.w ||| 2 ^ (m % 64)⟩) ∧ ∀ k, memB ((bs.take i ++ (⟨((m / 64 : Nat) : Int), 0⟩ : Blk) :: bs.drop i).set i ⟨(bs.take i ++ (⟨((m / 64 : Nat) : Int), 0⟩ : Blk) :: bs.drop i)[i]!.a, (bs.take i ++ (⟨((m / 64 : Nat) : Int), 0⟩ : Blk) :: bs.drop i)[i]!.w ||| 2 ^ (m % 64)⟩) k = (memB bs k || decide (k = m)) := by
      rw [hx, ins_set _ _ _ _ hi]
      simp only [Nat.zero_or]
      exact ⟨hadd.1, hadd.2.1⟩
    have hw5 : (bs.take i ++ (⟨((m / 64 : Nat) : Int), 0⟩ : Blk) :: bs.drop i)[i]!.w < 18446744073709551616 := by rw [hx]; exact (by decide : (0 : Nat) < 18446744073709551616)
    have hold5 : (bs.take i ++ (⟨((m / 64 : Nat) : Int), 0⟩ : Blk) :: bs.drop i)[i]!.w.testBit (m % 64) = memB bs m := by
      rw [hx, hadd.2.2]
      exact Nat.zero_testBit _
    generalize bs.take i ++ (⟨((m / 64 : Nat) : Int), 0⟩ : Blk) :: bs.drop i = bs1 at hb5 ho5 hne5 hnew5 hi5 hlen5 hres5 hw5 hold5
    clear hadd hx hln hlc4 hp5 ho4 hk4 hob4 hg4 hvb ho3 hn3 hhi2 hhi hlo hok ho2 hb2 hB hB3 hn32 hBs
    (repeat' (first | ((first | refine wl_rem rfl rfl rfl rfl rfl rfl (by omega) (by omega) (fun r hr hr0 hr1 hr2 => run_l tabOk ?_) | refine wl_quo rfl rfl rfl rfl rfl rfl (by omega) (by omega) (by simp only [inK]; omega) (run_l tabOk ?_) | refine gs_dt (by first | assumption | omega) ?_) <;> conv => whnf) | refine fin1 rfl rfl ?_))
    have hform := ownsB.blkform ho5 (by omega)
    obtain ⟨gb, cur, rfl, hcur, hcl, hbc⟩ := hform
    obtain ⟨_, hc5, hrow5⟩ := ownsB.rowAt ho5
    obtain ⟨ad, e, _, hc⟩ := rowB_f hrow5 i hi5
    cases e
    refine wl_shl (r := ((2 ^ (m % 64) : Nat) : Int)) (shl_one 0 (m % 64) _ (by omega) (by omega)) rfl rfl rfl (by omega) rfl rfl rfl (run_l tabOk ?_); conv => whnf
    (repeat' (first | (refine wl_Lg tabOk hb5 rfl rfl rfl rfl rfl rfl rfl (run_l tabOk ?_); conv => whnf) | (refine wl_L tabOk rfl rfl rfl rfl rfl rfl hc (run_l tabOk ?_); conv => whnf) | (refine wl_Xn tabOk 82 2 rfl rfl rfl rfl rfl rfl rfl (by omega) (run_l tabOk ?_); conv => whnf) | ((first | refine wl_rem rfl rfl rfl rfl rfl rfl (by omega) (by omega) (fun r hr hr0 hr1 hr2 => run_l tabOk ?_) | refine wl_quo rfl rfl rfl rfl rfl rfl (by omega) (by omega) (by simp only [inK]; omega) (run_l tabOk ?_) | refine gs_dt (by first | assumption | omega) ?_) <;> conv => whnf) | refine fin1 rfl rfl ?_))
    refine wl_bit (r := ((_ ||| 2 ^ (m % 64) : Nat) : Int)) (bits_or_u64_nat _ _ hw5 hpow) rfl rfl rfl rfl rfl rfl rfl (run_l tabOk ?_); conv => whnf
    (repeat' (first | (refine wl_Xn tabOk 82 2 rfl rfl rfl rfl rfl rfl rfl (by omega) (run_l tabOk ?_); conv => whnf) | ((first | refine wl_rem rfl rfl rfl rfl rfl rfl (by omega) (by omega) (fun r hr hr0 hr1 hr2 => run_l tabOk ?_) | refine wl_quo rfl rfl rfl rfl rfl rfl (by omega) (by omega) (by simp only [inK]; omega) (run_l tabOk ?_) | refine gs_dt (by first | assumption | omega) ?_) <;> conv => whnf) | refine fin1 rfl rfl ?_))
    refine wl_SFr tabOk 1 hcur rfl rfl rfl rfl rfl rfl (by omega) rfl rfl ?_
    intro w6 hp6
    refine run_l tabOk ?_
    conv => whnf
    (repeat' (first | ((first | refine wl_rem rfl rfl rfl rfl rfl rfl (by omega) (by omega) (fun r hr hr0 hr1 hr2 => run_l tabOk ?_) | refine wl_quo rfl rfl rfl rfl rfl rfl (by omega) (by omega) (by simp only [inK]; omega) (run_l tabOk ?_) | refine gs_dt (by first | assumption | omega) ?_) <;> conv => whnf) | refine fin1 rfl rfl ?_))
    refine wl_bit (r := ((_ &&& 2 ^ (m % 64) : Nat) : Int)) (bits_and_u64_nat _ _ hw5 hpow) rfl rfl rfl rfl rfl rfl rfl (run_l tabOk ?_); conv => whnf
    (repeat' (first | ((first | refine wl_rem rfl rfl rfl rfl rfl rfl (by omega) (by omega) (fun r hr hr0 hr1 hr2 => run_l tabOk ?_) | refine wl_quo rfl rfl rfl rfl rfl rfl (by omega) (by omega) (by simp only [inK]; omega) (run_l tabOk ?_) | refine gs_dt (by first | assumption | omega) ?_) <;> conv => whnf) | refine fin1 rfl rfl ?_))
    have ho6 := ownsB_set ho5 hcur hi5 hp6
    have hgb5 : gb ≠ g := fun e => hne5 (by rw [e]; rfl)
    refine ⟨_, g :: [gb], ⟨?_, ⟨⟨_, ?_, ho6, rfl, hne5⟩, hP.ge, hres5.1⟩, hk5.put hp6 (hnew5 gb rfl), ?_, fun k => ?_, by simpa using hlen5⟩⟩
    · rw [and_pow, hold5]
      simp
    · have := hp6.old hb5 (fun e => hgb5 e.symm)
      simpa using this
    · intro b hb'
      rcases List.mem_cons.1 hb' with rfl | hb'
      · exact .inl (by rw [hfp]; simp)
      · rw [List.mem_singleton.1 hb']
        exact hnew5 gb rfl
    · rw [hres5.2 k]
      congr 1
      rw [decide_eq_decide]
      omega
  · have hok := hok.symm
    rw [Bool.and_eq_true, decide_eq_true_eq, decide_eq_true_eq] at hok
    obtain ⟨hi5, he⟩ := hok
    have hrg := hP.wf.rng _ (mem_getB hi5)
    have hres5 := add_there hP.wf hi5 (n := m) (by omega)
    have hold5 : bs[i]!.w.testBit (m % 64) = memB bs m := (hP.wf.at_ hi5 (by omega)).symm
    have hk5 : Kept fp w w2 := Kept.of hB
    have hnew5 : ∀ b, (Value.slice A bs.length c).ownBlock = some b → b ∈ fp ∨ w.heap.size ≤ b := fun b e => .inl (by rw [hfp]; simp [e])
    have hlen5 : bs.length ≤ bs.length + 1 := by omega
    have hw5 := hrg.2.2.2
    have hb5 := hb2
    have ho5 := ho2
    have hne5 := hne
    (repeat' (first | ((first | refine wl_rem rfl rfl rfl rfl rfl rfl (by omega) (by omega) (fun r hr hr0 hr1 hr2 => run_l tabOk ?_) | refine wl_quo rfl rfl rfl rfl rfl rfl (by omega) (by omega) (by simp only [inK]; omega) (run_l tabOk ?_) | refine gs_dt (by first | assumption | omega) ?_) <;> conv => whnf) | refine fin1 rfl rfl ?_))
    have hform := ownsB.blkform ho5 (by omega)
    obtain ⟨gb, cur, rfl, hcur, hcl, hbc⟩ := hform
    obtain ⟨_, hc5, hrow5⟩ := ownsB.rowAt ho5
    obtain ⟨ad, e, _, hc⟩ := rowB_f hrow5 i hi5
    cases e
    refine wl_shl (r := ((2 ^ (m % 64) : Nat) : Int)) (shl_one 0 (m % 64) _ (by omega) (by omega)) rfl rfl rfl (by omega) rfl rfl rfl (run_l tabOk ?_); conv => whnf
    (repeat' (first | (refine wl_Lg tabOk hb5 rfl rfl rfl rfl rfl rfl rfl (run_l tabOk ?_); conv => whnf) | (refine wl_L tabOk rfl rfl rfl rfl rfl rfl hc (run_l tabOk ?_); conv => whnf) | (refine wl_Xn tabOk 82 2 rfl rfl rfl rfl rfl rfl rfl (by omega) (run_l tabOk ?_); conv => whnf) | ((first | refine wl_rem rfl rfl rfl rfl rfl rfl (by omega) (by omega) (fun r hr hr0 hr1 hr2 => run_l tabOk ?_) | refine wl_quo rfl rfl rfl rfl rfl rfl (by omega) (by omega) (by simp only [inK]; omega) (run_l tabOk ?_) | refine gs_dt (by first | assumption | omega) ?_) <;> conv => whnf) | refine fin1 rfl rfl ?_))
    refine wl_bit (r := ((_ ||| 2 ^ (m % 64) : Nat) : Int)) (bits_or_u64_nat _ _ hw5 hpow) rfl rfl rfl rfl rfl rfl rfl (run_l tabOk ?_); conv => whnf
    (repeat' (first | (refine wl_Xn tabOk 82 2 rfl rfl rfl rfl rfl rfl rfl (by omega) (run_l tabOk ?_); conv => whnf) | ((first | refine wl_rem rfl rfl rfl rfl rfl rfl (by omega) (by omega) (fun r hr hr0 hr1 hr2 => run_l tabOk ?_) | refine wl_quo rfl rfl rfl rfl rfl rfl (by omega) (by omega) (by simp only [inK]; omega) (run_l tabOk ?_) | refine gs_dt (by first | assumption | omega) ?_) <;> conv => whnf) | refine fin1 rfl rfl ?_))
    refine wl_SFr tabOk 1 hcur rfl rfl rfl rfl rfl rfl (by omega) rfl rfl ?_
    intro w6 hp6
    refine run_l tabOk ?_
    conv => whnf
    (repeat' (first | ((first | refine wl_rem rfl rfl rfl rfl rfl rfl (by omega) (by omega) (fun r hr hr0 hr1 hr2 => run_l tabOk ?_) | refine wl_quo rfl rfl rfl rfl rfl rfl (by omega) (by omega) (by simp only [inK]; omega) (run_l tabOk ?_) | refine gs_dt (by first | assumption | omega) ?_) <;> conv => whnf) | refine fin1 rfl rfl ?_))
    refine wl_bit (r := ((_ &&& 2 ^ (m % 64) : Nat) : Int)) (bits_and_u64_nat _ _ hw5 hpow) rfl rfl rfl rfl rfl rfl rfl (run_l tabOk ?_); conv => whnf
    (repeat' (first | ((first | refine wl_rem rfl rfl rfl rfl rfl rfl (by omega) (by omega) (fun r hr hr0 hr1 hr2 => run_l tabOk ?_) | refine wl_quo rfl rfl rfl rfl rfl rfl (by omega) (by omega) (by simp only [inK]; omega) (run_l tabOk ?_) | refine gs_dt (by first | assumption | omega) ?_) <;> conv => whnf) | refine fin1 rfl rfl ?_))
    have ho6 := ownsB_set ho5 hcur hi5 hp6
    have hgb5 : gb ≠ g := fun e => hne5 (by rw [e]; rfl)
    refine ⟨_, g :: [gb], ⟨?_, ⟨⟨_, ?_, ho6, rfl, hne5⟩, hP.ge, hres5.1⟩, hk5.put hp6 (hnew5 gb rfl), ?_, fun k => ?_, by simpa using hlen5⟩⟩
    · rw [and_pow, hold5]
      simp
    · have := hp6.old hb5 (fun e => hgb5 e.symm)
      simpa using this
    · intro b hb'
      rcases List.mem_cons.1 hb' with rfl | hb'
      · exact .inl (by rw [hfp]; simp)
      · rw [List.mem_singleton.1 hb']
        exact hnew5 gb rfl
    · rw [hres5.2 k]
      congr 1
      rw [decide_eq_decide]
      omega
end Go.Proofs.Ytjggjhgbobmkhaa
