/- Steps: cuts of rows, shifts, and, or, copies of elements of several cells, of made rows. -/
import Derived.Test.YtkjbkalakafnlaaDoorE9
import Derived.Laws.Slices
import Derived.Laws.CopyRow
import Derived.Laws.Bits64b
import Derived.Laws.Shifts
import Derived.Lib.AppendZerosOnto
namespace Go.Proofs.YtkjbkalakafnlaaDoor
open Go.RowKit
set_option linter.unusedVariables false
set_option linter.unusedSimpArgs false
theorem addr_add0 (a : Addr) : a.add 0 = a := by unfold Addr.add; simp
def cutA (A : Option Addr) (m c s : Nat) : Option Addr := if c = m then A else A.map (·.add (m * s))
section
variable {P : Program} {T : Nat → Option TI} {n : Nat} {F : Fm} {w : World} {ops : Array Oper} {rest : List Oper} {o : Oper} {K : Fm → Prop} {C : World → Prop}
theorem elem_of {t e : Nat} (hu : P.underlying t = some (.slice e)) : P.underlying t = some (.slice (P.elem t)) := by
  have : P.elem t = e := by simp [Program.elem, hu]
  rw [this]; exact hu
theorem sliceH_run (hT : TabOk P T) (e s : Nat) {t : TypeId} {x y : Operand} {A : Option Addr} {l c : Nat} {ki : IntKind} {h : Int} (hop : o.op = .slice t x none (some y) none) (hx : ev F x = .slice A l c) (hy : ev F y = .int ki h) (h1 : sliceT T t e s = true) (h0 : 0 ≤ h) (hc : h ≤ c) :
    (execOp (ev F) o).run P w = .ok (.value (.slice A h.toNat c)) w := by
  obtain ⟨hu, hs⟩ := sliceT_ok (w := w) hT h1
  have he : P.elem t = e := by simp [Program.elem, hu]
  have hr := run_slice_h (P := P) (w := w) t A l c (elem_of hu) ki h h0 hc
  rw [he, hs] at hr
  have e1 : sliced A 0 h.toNat c s = .slice A h.toNat c := by
    unfold sliced
    cases A <;> simp [addr_add0]
  simp only [Result.andThen, e1] at hr
  have hr2 := run_sliceAt_slice (P := P) (w := w) t (.slice A l c) none (some (.int ki h)) none (elem_of hu)
  rw [hr] at hr2
  simp [execOp, hop, hx, hy, hr2]
theorem sliceL_run (hT : TabOk P T) (e s : Nat) {t : TypeId} {x y : Operand} {A : Option Addr} {l c : Nat} {ki : IntKind} {h : Int} (hop : o.op = .slice t x (some y) none none) (hx : ev F x = .slice A l c) (hy : ev F y = .int ki h) (h1 : sliceT T t e s = true) (h0 : 0 ≤ h) (hc : h ≤ l) :
    (execOp (ev F) o).run P w = .ok (.value (.slice (cutA A h.toNat c s) (l - h.toNat) (c - h.toNat))) w := by
  obtain ⟨hu, hs⟩ := sliceT_ok (w := w) hT h1
  have he : P.elem t = e := by simp [Program.elem, hu]
  have hr := run_slice_l (P := P) (w := w) t A l c (elem_of hu) ki h h0 hc
  rw [he, hs] at hr
  simp only [Result.andThen, sliced] at hr
  have hr2 := run_sliceAt_slice (P := P) (w := w) t (.slice A l c) (some (.int ki h)) none none (elem_of hu)
  rw [hr] at hr2
  simp [execOp, hop, hx, hy, hr2, cutA]
theorem wq_slH (hT : TabOk P T) (e s : Nat) {t : TypeId} {x y : Operand} {A : Option Addr} {l c : Nat} {ki : IntKind} {h : Int} (hop : o.op = .slice t x none (some y) none) (hx : ev F x = .slice A l c) (hy : ev F y = .int ki h) (h1 : sliceT T t e s = true) (hg : o.guard = none) {d : Nat} (hd : o.dst = some d) (hn : Nat.blt d n = true) (h0 : 0 ≤ h) (hc : h ≤ c)
    (k : wq P n ops C rest K (upd F d (.slice A h.toNat c))) : wq P n ops C (o :: rest) K F := wq_val hg hd hn (fun _ _ => sliceH_run hT e s hop hx hy h1 h0 hc) k
theorem wq_slL (hT : TabOk P T) (e s : Nat) {t : TypeId} {x y : Operand} {A : Option Addr} {l c : Nat} {ki : IntKind} {h : Int} (hop : o.op = .slice t x (some y) none none) (hx : ev F x = .slice A l c) (hy : ev F y = .int ki h) (h1 : sliceT T t e s = true) (hg : o.guard = none) {d : Nat} (hd : o.dst = some d) (hn : Nat.blt d n = true) (h0 : 0 ≤ h) (hc : h ≤ l)
    (k : wq P n ops C rest K (upd F d (.slice (cutA A h.toNat c s) (l - h.toNat) (c - h.toNat)))) : wq P n ops C (o :: rest) K F := wq_val hg hd hn (fun _ _ => sliceL_run hT e s hop hx hy h1 h0 hc) k
end
theorem RowR.take {α : Type} [Inhabited α] {sz : Nat} {d : Dec α} {w : World} {A : Option Addr} {xs : List α} (h : RowR sz d w A xs) (k : Nat) : RowR sz d w A (xs.take k) := by
  refine ⟨Nat.le_trans (by simp; omega) h.1, fun i hi => ?_⟩
  have hi' : i < xs.length := by simp at hi; omega
  obtain ⟨ad, cs, e1, e2, e3, e4⟩ := h.2 i hi'
  refine ⟨ad, cs, e1, e2, e3, ?_⟩
  rw [getElem!_pos _ i hi, List.getElem_take]
  rwa [getElem!_pos xs i hi'] at e4
theorem RowR.drop {α : Type} [Inhabited α] {sz : Nat} {d : Dec α} {w : World} {A : Option Addr} {xs : List α} (h : RowR sz d w A xs) (m c : Nat) (hc : xs.length ≤ c) : RowR sz d w (cutA A m c sz) (xs.drop m) := by
  refine ⟨Nat.le_trans (by simp) h.1, fun i hi => ?_⟩
  have hi' : m + i < xs.length := by simp at hi; omega
  obtain ⟨ad, cs, e1, e2, e3, e4⟩ := h.2 (m + i) hi'
  subst e1
  refine ⟨ad.add (m * sz), cs, by unfold cutA; rw [if_neg (by omega)]; rfl, e2, fun j u hu => ?_, ?_⟩
  · rw [add_add, show m * sz + (i * sz + j) = (m + i) * sz + j by rw [Nat.add_mul]; omega]
    exact e3 j u hu
  · rw [getElem!_pos _ i hi, List.getElem_drop]
    rwa [getElem!_pos xs (m + i) hi'] at e4
section
variable {P : Program} {T : Nat → Option TI} {n : Nat} {Q : Post} {F : Fm} {w : World} {ops : Array Oper} {rest : List Oper} {o : Oper} {K : Fm → Prop} {C : World → Prop}
theorem wl_slH (hT : TabOk P T) (e s : Nat) {t : TypeId} {x y : Operand} {A : Option Addr} {l c : Nat} {ki : IntKind} {h : Int} (hop : o.op = .slice t x none (some y) none) (hx : ev F x = .slice A l c) (hy : ev F y = .int ki h) (h1 : sliceT T t e s = true) (hg : o.guard = none) {d : Nat} (hd : o.dst = some d) (hn : Nat.blt d n = true) (h0 : 0 ≤ h) (hc : h ≤ c)
    (k : wl P n ops rest Q (upd F d (.slice A h.toNat c)) w) : wl P n ops (o :: rest) Q F w := wl_val hg hd hn (sliceH_run hT e s hop hx hy h1 h0 hc) k
theorem wl_slL (hT : TabOk P T) (e s : Nat) {t : TypeId} {x y : Operand} {A : Option Addr} {l c : Nat} {ki : IntKind} {h : Int} (hop : o.op = .slice t x (some y) none none) (hx : ev F x = .slice A l c) (hy : ev F y = .int ki h) (h1 : sliceT T t e s = true) (hg : o.guard = none) {d : Nat} (hd : o.dst = some d) (hn : Nat.blt d n = true) (h0 : 0 ≤ h) (hc : h ≤ l)
    (k : wl P n ops rest Q (upd F d (.slice (cutA A h.toNat c s) (l - h.toNat) (c - h.toNat))) w) : wl P n ops (o :: rest) Q F w := wl_val hg hd hn (sliceL_run hT e s hop hx hy h1 h0 hc) k
/-! ### shifts, bits -/
theorem shr_run {x y : Operand} {xt yt : TypeId} {k yk : IntKind} {a b : Int} (hop : o.op = .binOp .shr xt x y yt) (hx : ev F x = .int k a) (hy : ev F y = .int yk b) (h0 : 0 ≤ b) : (execOp (ev F) o).run P w = .ok (.value (.int k (a / 2 ^ min b.toNat k.bits))) w := by
  simp [execOp, hop, hx, hy, eqGuard, binOp, shift_shr_any k yk a b h0]
theorem shl_run {x y : Operand} {xt yt : TypeId} {k yk : IntKind} {a b : Int} (hop : o.op = .binOp .shl xt x y yt) (hx : ev F x = .int k a) (hy : ev F y = .int yk b) (h0 : 0 ≤ b) : (execOp (ev F) o).run P w = .ok (.value (.int k (k.wrap (a * 2 ^ min b.toNat k.bits)))) w := by
  simp [execOp, hop, hx, hy, eqGuard, binOp, shift_shl_any k yk a b h0]
def isBit : BinOp → Bool
  | .and | .or | .xor | .andNot => true
  | _ => false
theorem bits_run {op : BinOp} {x y : Operand} {xt yt : TypeId} {k : IntKind} {a b : Int} (hop : o.op = .binOp op xt x y yt) (hx : ev F x = .int k a) (hy : ev F y = .int k b) (hb : isBit op = true) : (execOp (ev F) o).run P w = .ok (.value (.int k (bits op k a b))) w := by
  cases op <;> simp only [isBit, Bool.false_eq_true] at hb <;> simp [execOp, hop, hx, hy, eqGuard, binOp, intBits_and, intBits_or, intBits_xor, intBits_andNot]
theorem wl_shr {x y : Operand} {xt yt : TypeId} {k yk : IntKind} {a b r : Int} (hr : a / 2 ^ min b.toNat k.bits = r) (hop : o.op = .binOp .shr xt x y yt) (hx : ev F x = .int k a) (hy : ev F y = .int yk b) (h0 : 0 ≤ b) (hg : o.guard = none) {d : Nat} (hd : o.dst = some d) (hn : Nat.blt d n = true)
    (kk : wl P n ops rest Q (upd F d (.int k r)) w) : wl P n ops (o :: rest) Q F w := wl_val hg hd hn (by rw [shr_run hop hx hy h0, hr]) kk
theorem wl_shl {x y : Operand} {xt yt : TypeId} {k yk : IntKind} {a b r : Int} (hr : k.wrap (a * 2 ^ min b.toNat k.bits) = r) (hop : o.op = .binOp .shl xt x y yt) (hx : ev F x = .int k a) (hy : ev F y = .int yk b) (h0 : 0 ≤ b) (hg : o.guard = none) {d : Nat} (hd : o.dst = some d) (hn : Nat.blt d n = true)
    (kk : wl P n ops rest Q (upd F d (.int k r)) w) : wl P n ops (o :: rest) Q F w := wl_val hg hd hn (by rw [shl_run hop hx hy h0, hr]) kk
theorem wl_bit {op : BinOp} {x y : Operand} {xt yt : TypeId} {k : IntKind} {a b r : Int} (hr : bits op k a b = r) (hop : o.op = .binOp op xt x y yt) (hx : ev F x = .int k a) (hy : ev F y = .int k b) (hb : isBit op = true) (hg : o.guard = none) {d : Nat} (hd : o.dst = some d) (hn : Nat.blt d n = true)
    (kk : wl P n ops rest Q (upd F d (.int k r)) w) : wl P n ops (o :: rest) Q F w := wl_val hg hd hn (by rw [bits_run hop hx hy hb, hr]) kk
theorem wl_mulk {x y : Operand} {xt yt : TypeId} {k : IntKind} {a b r : Int} (hr : k.wrap (a * b) = r) (hop : o.op = .binOp .mul xt x y yt) (hx : ev F x = .int k a) (hy : ev F y = .int k b) (hg : o.guard = none) {d : Nat} (hd : o.dst = some d) (hn : Nat.blt d n = true)
    (kk : wl P n ops rest Q (upd F d (.int k r)) w) : wl P n ops (o :: rest) Q F w := wl_mulw hop hx hy hg hd hn (by rw [hr]; exact kk)
theorem wl_addr {x y : Operand} {xt yt : TypeId} {k : IntKind} {a b r : Int} (hr : k.wrap (a + b) = r) (hop : o.op = .binOp .add xt x y yt) (hx : ev F x = .int k a) (hy : ev F y = .int k b) (hg : o.guard = none) {d : Nat} (hd : o.dst = some d) (hn : Nat.blt d n = true)
    (kk : wl P n ops rest Q (upd F d (.int k r)) w) : wl P n ops (o :: rest) Q F w := wl_addw hop hx hy hg hd hn (by rw [hr]; exact kk)
theorem wl_subr {x y : Operand} {xt yt : TypeId} {k : IntKind} {a b r : Int} (hr : k.wrap (a - b) = r) (hop : o.op = .binOp .sub xt x y yt) (hx : ev F x = .int k a) (hy : ev F y = .int k b) (hg : o.guard = none) {d : Nat} (hd : o.dst = some d) (hn : Nat.blt d n = true)
    (kk : wl P n ops rest Q (upd F d (.int k r)) w) : wl P n ops (o :: rest) Q F w := wl_subw hop hx hy hg hd hn (by rw [hr]; exact kk)
theorem wl_neg {x : Operand} {xt : TypeId} {k : IntKind} {a r : Int} (hr : k.wrap (-a) = r) (hop : o.op = .unOp .neg xt x) (hx : ev F x = .int k a) (hg : o.guard = none) {d : Nat} (hd : o.dst = some d) (hn : Nat.blt d n = true)
    (kk : wl P n ops rest Q (upd F d (.int k r)) w) : wl P n ops (o :: rest) Q F w := wl_val hg hd hn (by
  have : (execOp (ev F) o).run P w = .ok (.value (.int k (k.wrap (-a)))) w := by simp [execOp, hop, hx, Op.unary, Op.intArith]
  rw [this, hr]) kk
/-! ### copies -/
theorem copy_run (hT : TabOk P T) (e s b : Nat) {t t2 t' : TypeId} {c : Call} {x y : Operand} {g off dl dc sl sc m : Nat} {a : Addr} {cur : List Value} (cs : List Value) (hb : w.heap[g]? = some (.cells cur.toArray t' (0, 0))) (hop : o.op = .call c) (hcal : c.callee = .builtin .copy) (hargs : c.args.toList = [x, y]) (htys : c.argTypes.toList = [t, t2])
    (hx : ev F x = .slice (some ⟨g, off, none⟩) dl dc) (hy : ev F y = .slice (some a) sl sc) (h1 : appT T t e s b = true) (hm : m = min sl dl)
    (hl : cs.length = m * s) (hsrc : ∀ j v, cs[j]? = some v → w.cell? (a.add j) = some v) (hfit : off + cs.length ≤ cur.length) (hone : ∀ v ∈ cs, v.oneCell' = true) :
    ∃ w1, (execOp (ev F) o).run P w = .ok (.value (goInt m)) w1 ∧ Put w w1 g (cur.take off ++ cs ++ cur.drop (off + cs.length)) t' := by
  obtain ⟨hu, j, z, hj, hz, hs, hby, hzs⟩ := appT_ok hT h1
  obtain ⟨callee, ⟨args⟩, ⟨tys⟩⟩ := c
  simp only at hcal hargs htys
  subst hcal hargs htys
  have hl2 := run_loadCells_list (P := P) w a cs hsrc
  have hst := run_storeCells_at P g off t' cs 0 cur.toArray w hb (by simpa using hfit) hone
  rw [hl] at hl2
  have hmm : Nat.min sl dl = m := hm.symm
  refine ⟨_, ?_, ⟨by simp [World.setRow], setRow_heap w g cur.toArray _ t' _ hb, ⟨rfl, rfl, rfl, by simp [World.setRow], fun k _ hk => setRow_other w g k _ (fun e => hk (by simp [e]))⟩⟩⟩
  simp [execOp, hop, resolve, invoke, builtin, hx, hy, Builtin.copy_, run_underlying hu, Builtin.lenOf, Builtin.firstCells, sizeOf, typeInfo, hj, hs, hmm, hl2, hst]
theorem wl_cp (hT : TabOk P T) (e s b : Nat) {t t2 t' : TypeId} {c : Call} {x y : Operand} {g off dl dc sl sc m : Nat} {a : Addr} {cur : List Value} (cs : List Value) (hb : w.heap[g]? = some (.cells cur.toArray t' (0, 0))) (hop : o.op = .call c) (hcal : c.callee = .builtin .copy) (hargs : c.args.toList = [x, y]) (htys : c.argTypes.toList = [t, t2])
    (hx : ev F x = .slice (some ⟨g, off, none⟩) dl dc) (hy : ev F y = .slice (some a) sl sc) (h1 : appT T t e s b = true) (hm : m = min sl dl) (hg : o.guard = none) {d : Nat} (hd : o.dst = some d) (hn : Nat.blt d n = true)
    (hl : cs.length = m * s) (hsrc : ∀ j v, cs[j]? = some v → w.cell? (a.add j) = some v) (hfit : off + cs.length ≤ cur.length) (hone : ∀ v ∈ cs, v.oneCell' = true)
    (k : ∀ w1, Put w w1 g (cur.take off ++ cs ++ cur.drop (off + cs.length)) t' → wl P n ops rest Q (upd F d (goInt m)) w1) : wl P n ops (o :: rest) Q F w := by
  obtain ⟨w1, hr, hp⟩ := copy_run hT e s b cs hb hop hcal hargs htys hx hy h1 hm hl hsrc hfit hone
  exact wl_val hg hd hn hr (k w1 hp)
end
end Go.Proofs.YtkjbkalakafnlaaDoor
