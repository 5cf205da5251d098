/- Several texts of one claim in one file: EP EX4 EY QR20 KS16. -/
import Derived.Test.YtomldckplkecbaaZ6
import Derived.Lib.Overlaps
import Derived.Test.YtomldckplkecbaaZ5
import Derived.Laws.CopyRow
import Derived.Test.YtomldckplkecbaaZ1
/- Sets of numbers in memory: rows of blocks; what leaves all but some blocks as it was; steps that their functions need. -/
namespace Go.Proofs.Ytomldckplkecbaa
open Go.RowKit
set_option linter.unusedVariables false
set_option linter.unusedSimpArgs false
/-- All that was there is as it was, but for the blocks of rb. -/
structure Kept (rb : List Nat) (w w' : World) : Prop where
  os : w'.os = w.os
  tape : w'.tape = w.tape
  output : w'.output = w.output
  size : w.heap.size ≤ w'.heap.size
  block : ∀ k, k < w.heap.size → k ∉ rb → w'.heap[k]? = w.heap[k]?
section
variable {rb rb2 : List Nat} {w w1 w2 : World}
theorem Kept.of (h : Below w.heap.size w w1) : Kept rb w w1 := ⟨h.os, h.tape, h.output, h.size, fun k hk _ => h.block k hk⟩
theorem Kept.refl (rb : List Nat) (w : World) : Kept rb w w := Kept.of (Below.refl _ _)
theorem Kept.below_nil (h : Kept [] w w1) : Below w.heap.size w w1 := ⟨h.os, h.tape, h.output, h.size, fun k hk => h.block k hk (by simp)⟩
/-- One step more; what it writes that is new doesn't count. -/
theorem Kept.trans (h : Kept rb w w1) (k : Kept rb2 w1 w2) (hs : ∀ b ∈ rb2, b ∈ rb ∨ w.heap.size ≤ b) : Kept rb w w2 :=
  ⟨k.os.trans h.os, k.tape.trans h.tape, k.output.trans h.output, Nat.le_trans h.size k.size, fun i hi hn => (k.block i (Nat.lt_of_lt_of_le hi h.size) (fun hm => (hs i hm).elim hn (fun h3 => by omega))).trans (h.block i hi hn)⟩
theorem Kept.up (h : Kept rb w w1) (k : Below w1.heap.size w1 w2) : Kept rb w w2 := h.trans (Kept.of (rb := []) k) (by simp)
theorem Kept.put (h : Kept rb w w1) {g : Nat} {cs : List Value} {t : TypeId} (hp : Put w1 w2 g cs t) (hg : g ∈ rb ∨ w.heap.size ≤ g) : Kept rb w w2 :=
  h.trans (rb2 := [g]) ⟨hp.grown.os, hp.grown.tape, hp.grown.output, hp.grown.size, fun k hk hn => hp.grown.block k hk (by simp; intro e; subst e; exact hn (by simp))⟩ (by simpa using hg)
theorem Kept.grown {row : Option Nat} (h : Kept rb w w1) (hg : w1.grownBy w2 row) (hr : ∀ g, row = some g → g ∈ rb ∨ w.heap.size ≤ g) : Kept rb w w2 :=
  h.trans (rb2 := row.toList) ⟨hg.os, hg.tape, hg.output, hg.size, fun k hk hn => hg.block k hk (fun e => hn (by simp [← e]))⟩ (fun b hb => hr b (by simpa using hb))
theorem Kept.blk (h : Kept rb w w1) {g : Nat} {o : Obj} (hb : w.heap[g]? = some o) (hn : g ∉ rb) : w1.heap[g]? = some o := (h.block g (blk_lt hb) hn).trans hb
theorem Kept.below {w0 : World} {B : Nat} (h : Kept rb w w1) (hb : Below B w0 w) (hB : B ≤ w.heap.size) (hr : ∀ k ∈ rb, B ≤ k) : Below B w0 w1 :=
  hb.trans ⟨h.os, h.tape, h.output, h.size, fun k hk => h.block k (Nat.lt_of_lt_of_le hk hB) fun hm => by have := hr k hm; omega⟩
theorem Kept.more (h : Kept rb w w1) (hs : ∀ b ∈ rb, b ∈ rb2) : Kept rb2 w w1 := ⟨h.os, h.tape, h.output, h.size, fun k hk hn => h.block k hk (fun hm => hn (hs k hm))⟩
end
/-! ### Blocks of numbers -/
def dBlk : Dec Blk := fun _ cs b => cs = [.int .i64 b.a, .int .u64 (b.w : Int)]
theorem stays_Blk : Stays dBlk := ⟨fun _ _ _ _ _ h => h⟩
def blkC (b : Blk) : List Value := [.int .i64 b.a, .int .u64 (b.w : Int)]
def flatB (bs : List Blk) : List Value := bs.flatMap blkC
theorem flatB_len (bs : List Blk) : (flatB bs).length = bs.length * 2 := by
  induction bs with
  | nil => rfl
  | cons b bs ih =>
    have : (flatB (b :: bs)).length = 2 + (flatB bs).length := by simp [flatB, blkC]; omega
    rw [this, ih, List.length_cons]; omega
theorem flatB_app (xs ys : List Blk) : flatB (xs ++ ys) = flatB xs ++ flatB ys := by simp [flatB]
theorem flatB_one (b : Blk) : flatB [b] = blkC b := by simp [flatB]
theorem flatB_cons (b : Blk) (bs : List Blk) : flatB (b :: bs) = blkC b ++ flatB bs := by simp [flatB]
theorem flatB_take (bs : List Blk) (i : Nat) (hi : i ≤ bs.length) : (flatB bs).take (i * 2) = flatB (bs.take i) := by
  conv => lhs; rw [← List.take_append_drop i bs, flatB_app]
  rw [List.take_append_of_le_length (by rw [flatB_len, List.length_take]; omega), List.take_of_length_le (by rw [flatB_len, List.length_take]; omega)]
theorem flatB_drop (bs : List Blk) (i : Nat) (hi : i ≤ bs.length) : (flatB bs).drop (i * 2) = flatB (bs.drop i) := by
  conv => lhs; rw [← List.take_append_drop i bs, flatB_app]
  have e : (flatB (bs.take i)).length = i * 2 := by rw [flatB_len]; simp; omega
  rw [← e, List.drop_left]
theorem flatB_at (bs : List Blk) (i : Nat) (hi : i < bs.length) : ((flatB bs).drop (i * 2)).take 2 = blkC bs[i]! := by
  rw [flatB_drop bs i (by omega), getElem!_pos bs i hi, List.drop_eq_getElem_cons hi, flatB_cons]
  rfl
theorem elemsB (w : World) (bs : List Blk) : Elems 2 dBlk w (flatB bs) bs := ⟨flatB_len bs, fun i hi => flatB_at bs i hi⟩
theorem elemsB_eq {w : World} : ∀ {bs : List Blk} {flat : List Value}, Elems 2 dBlk w flat bs → flat = flatB bs
  | [], flat, h => by
    have := h.1
    simp at this
    rw [this]; rfl
  | b :: bs, flat, h => by
    have h0 := h.2 0 (by simp)
    simp only [Nat.zero_mul, List.drop_zero] at h0
    have h0 : flat.take 2 = blkC b := by simpa [dBlk, blkC] using h0
    have ht : Elems 2 dBlk w (flat.drop 2) bs := by
      refine ⟨by have := h.1; simp at this ⊢; omega, fun i hi => ?_⟩
      have := h.2 (i + 1) (by simpa using hi)
      rw [List.drop_drop]
      have e : 2 + i * 2 = (i + 1) * 2 := by omega
      rw [e]
      simpa using this
    rw [flatB_cons, ← h0, ← elemsB_eq ht, List.take_append_drop]
theorem oneB (bs : List Blk) : ∀ u ∈ flatB bs, u.oneCell' = true := by
  intro u hu
  obtain ⟨b, _, hb⟩ := List.mem_flatMap.1 hu
  simp [blkC] at hb
  rcases hb with rfl | rfl <;> rfl
theorem one_Blk : OneC dBlk := fun w cs x h u hu => by
  rw [show cs = blkC x from h] at hu
  simp [blkC] at hu
  rcases hu with rfl | rfl <;> rfl
/-- A block's two cells, where they lie. -/
theorem rowB_at {w : World} {A : Option Addr} {bs : List Blk} (h : RowR 2 dBlk w A bs) (i : Nat) (hi : i < bs.length) : ∃ ad, A = some ad ∧ cellsAt w (ad.add (i * 2)) 0 [.int .i64 bs[i]!.a, .int .u64 (bs[i]!.w : Int)] := by
  obtain ⟨ad, cs, e, _, hc, hd⟩ := row_at h i hi
  rw [show cs = _ from hd] at hc
  exact ⟨ad, e, hc⟩
/-! ### A set -/
section
variable {base g : Nat} {w w1 : World} {bs : List Blk} {fp : List Nat}
end
/-! ### Steps -/
section
variable {P : Program} {T : Nat → Option TI} {n : Nat} {Q : Post} {F : Fm} {w : World} {ops : Array Oper} {rest : List Oper} {o : Oper} {K : Fm → Prop} {C : World → Prop}
/-- A function of two results. -/
theorem fin2 {fn : Func} {R : Ending → World → Prop} {s t : Tmp} {u v : Value} (hr : fn.results = #[.tmp s, .tmp t]) (hu : opn (F s) = some u) (hv : opn (F t) = some v) (h : R (.returned (.tuple #[u, v])) w) : Fin P fn R F w := by
  rw [opn_eq] at hu hv
  have hu := Option.some.inj hu
  have hv := Option.some.inj hv
  unfold Fin retQ
  intro tmps ht
  refine ⟨.tuple #[u, v], ?_, h⟩
  rw [results_tmp2 hr tmps P w, ht s, ht t, hu, hv]
def arrT (T : Nat → Option TI) (t e s len : Nat) : Bool := match T t, T e with
  | some ⟨.array l e', _, _, _⟩, some i => Nat.beq e' e && Nat.beq i.size s && Nat.beq l len
  | _, _ => false
theorem wl_XA (hT : TabOk P T) (e s len : Nat) {t : TypeId} {x ix : Operand} {a : Addr} {ki : IntKind} {i : Nat} (hop : o.op = .indexAddr t x ix) (hx : ev F x = .pointer (some a)) (hi : ev F ix = .int ki i) (h1 : arrT T t e s len = true) (hg : o.guard = none) {d : Nat} (hd : o.dst = some d) (hn : Nat.blt d n = true)
    (hl : i < len) (k : wl P n ops rest Q (upd F d (.pointer (some (a.add (i * s))))) w) : wl P n ops (o :: rest) Q F w := by
  refine wl_val hg hd hn ?_ k
  unfold arrT at h1
  split at h1
  · rename_i l e' sz by_ z i2 e1 e2
    simp only [Bool.and_eq_true] at h1
    have h2 := Nat.eq_of_beq_eq_true h1.1.1
    have h3 := Nat.eq_of_beq_eq_true h1.1.2
    have h4 := Nat.eq_of_beq_eq_true h1.2
    subst h2 h3 h4
    have hu := T_u hT e1
    have hs := run_size (w := w) hT e2
    simp [execOp, hop, hx, hi, Instr.indexAt, asIntOf, run_und hu, hs, hl, Instr.sureAddr]
  · cases h1
/-- append(v, make(.., m)...), where there is no room. -/
theorem wl_apz (hT : TabOk P T) (e s b : Nat) {t tn : TypeId} {kn : IntKind} {c : Call} {x y : Operand} {g sLen sCap m : Nat} {mi : Int} {i : TI} {olds z : List Value} {cur : List Value} {t' : TypeId} (hop : o.op = .call c) (hcal : c.callee = .builtin .append) (hargs : c.args.toList = [x, y]) (htys : c.argTypes.toList = [t, tn])
    (hx : ev F x = .slice (some ⟨g, 0, none⟩) sLen sCap) (hmi : mi = (m : Int)) (hy : ev F y = .int .i64 mi) (h1 : appT T t e s b = true) (htn : P.underlying tn = some (.int kn)) (hi : T e = some i) (hz : i.zero.cells = z.toArray) (hs0 : Nat.blt 0 s = true) (hg : o.guard = none) {d : Nat} (hd : o.dst = some d) (hn : Nat.blt d n = true)
    (hb : w.heap[g]? = some (.cells cur.toArray t' (0, 0))) (hol : olds = cur.take (sLen * s)) (hl : sLen * s ≤ cur.length) (hm0 : 0 < m) (hgr : sCap < sLen + m) (hbig : (sLen + m) * b ≤ 140737488355328) (h63 : sLen + m ≤ 9223372036854775807)
    (k : ∀ cap w1 more, New w w1 w.heap.size (olds ++ (List.replicate m z).flatten ++ more) e → sLen + m ≤ cap → cap ≤ maxLen → (olds ++ (List.replicate m z).flatten ++ more).length = cap * s → wl P n ops rest Q (upd F d (.slice (some ⟨w.heap.size, 0, none⟩) (sLen + m) cap)) w1) : wl P n ops (o :: rest) Q F w := by
  subst hmi
  obtain ⟨hu, j, z', hj, hz', hs, hby, hzs⟩ := appT_ok hT h1
  obtain ⟨j2, hj2, hz2, _, _⟩ := T_i hT hi
  rw [hj] at hj2
  cases hj2
  rw [hz'] at hz2
  cases hz2
  obtain ⟨callee, ⟨args⟩, ⟨tys⟩⟩ := c
  simp only at hcal hargs htys
  subst hcal hargs htys
  have hlen : (cur.take (sLen * s)).length = sLen * s := by simp; omega
  have hold : (Builtin.firstCells j.size sLen (.slice (some ⟨g, 0, none⟩) sLen sCap)).run P w.drew = .ok olds.toArray w.drew := by
    have := run_loadCells_list (P := P) w.drew ⟨g, 0, none⟩ olds (fun q u hu => by
      have e : w.drew.cell? ((⟨g, 0, none⟩ : Addr).add q) = w.cell? ((⟨g, 0, none⟩ : Addr).add q) := rfl
      rw [e, add_zero]
      refine cell_blk hb ?_
      rw [hol] at hu
      rw [List.getElem?_take] at hu
      split at hu
      · simpa using hu
      · cases hu)
    rw [hol, hlen] at this
    simp only [Builtin.firstCells, hs, hol]
    exact this
  have hneed : sLen + m ≤ maxLen := by simp only [maxLen]; omega
  have hfit : Builtin.nextslicecap (sLen + m) sCap * j.bytes ≤ 281474976710656 := growslice_fits hgr (by rw [hby]; exact hbig)
  have hmb : m * j.bytes ≤ 281474976710656 := by
    have : m * j.bytes ≤ (sLen + m) * b := by rw [hby]; exact Nat.mul_le_mul_right _ (by omega)
    omega
  have hr := Lib.run_append_grow_zeros (P := P) w t tn o.type e j i.zero .i64 kn hu htn hj hz' (some ⟨g, 0, none⟩) sLen sCap olds hold m hm0 (by rw [hs]; exact nblt hs0) hgr (by omega) hmb hfit
  have hzl : z.length = s := by rw [hz] at hzs; simpa using hzs
  have hc : ∀ q, Builtin.zeroCells i.zero.cells q = ((List.replicate q z).flatten).toArray := fun q => by
    rw [← zeros_eq z q]
    unfold Builtin.zeroCells
    rw [hz]
    apply Array.ext'
    simp
  rw [hc, hc] at hr
  refine wl_val hg hd hn (v := .slice (some ⟨w.heap.size, 0, none⟩) (sLen + m) (grownCap w (sLen + m) sCap e)) (w1 := w.drew.alloc (.cells (olds ++ (List.replicate m z).flatten ++ (List.replicate (grownCap w (sLen + m) sCap e - (sLen + m)) z).flatten).toArray e)) ?_ (k _ _ (List.replicate (grownCap w (sLen + m) sCap e - (sLen + m)) z).flatten ?_ (grownCap_ge ..) (grownCap_le_maxLen _ _ _ _ hneed) ?_)
  · simp only [List.append_toArray] at hr
    simp [execOp, hop, resolve, invoke, builtin, hx, hy, hr]
  · have hn2 := new_alloc w.drew (olds ++ (List.replicate m z).flatten ++ (List.replicate (grownCap w (sLen + m) sCap e - (sLen + m)) z).flatten) e
    exact ⟨hn2.at_, hn2.size, hn2.blk, ⟨hn2.below.os, hn2.below.tape, hn2.below.output, hn2.below.size, hn2.below.block⟩⟩
  · have hge := grownCap_ge w (sLen + m) sCap e
    have : grownCap w (sLen + m) sCap e = sLen + m + (grownCap w (sLen + m) sCap e - (sLen + m)) := by omega
    rw [this]
    simp only [List.length_append, List.length_flatten, List.map_replicate, List.sum_replicate_nat, hol, hlen, hzl, Nat.add_mul, Nat.add_sub_cancel_left]
/-! ### nil or not -/
def ptrT (T : Nat → Option TI) (t : Nat) : Bool := match T t with
  | some ⟨.pointer _, _, _, _⟩ => true
  | _ => false
theorem pn_run (hT : TabOk P T) {t : TypeId} {x : Operand} {yt : TypeId} {A : Option Addr} (hop : o.op = .binOp .eql t x (.const (.pointer none)) yt) (hx : ev F x = .pointer A) (h1 : ptrT T t = true) : (execOp (ev F) o).run P w = .ok (.value (.bool A.isNone)) w := by
  unfold ptrT at h1
  split at h1
  · rename_i e1
    have hu := T_u hT e1
    have h2 : (Op.equal t (.pointer A) (.pointer none)).run P w = .ok A.isNone w := by
      unfold Op.equal Op.maxDepth
      rw [show (10000 : Nat) = 9999 + 1 from rfl]
      unfold Op.equalIn
      cases A <;> simp [run_und hu]
    have hy : ev F (.const (.pointer none)) = .pointer none := rfl
    simp [execOp, hop, hx, hy, eqGuard, binOp, h2]
  · cases h1
theorem wl_pnT (hT : TabOk P T) {t : TypeId} {x : Operand} {yt : TypeId} (hop : o.op = .binOp .eql t x (.const (.pointer none)) yt) (hx : ev F x = .pointer none) (h1 : ptrT T t = true) (hg : o.guard = none) {d : Nat} (hd : o.dst = some d) (hn : Nat.blt d n = true)
    (k : wl P n ops rest Q (upd F d (.bool true)) w) : wl P n ops (o :: rest) Q F w := wl_val hg hd hn (pn_run hT hop hx h1) k
theorem wl_pnF (hT : TabOk P T) {t : TypeId} {x : Operand} {yt : TypeId} {a : Addr} (hop : o.op = .binOp .eql t x (.const (.pointer none)) yt) (hx : ev F x = .pointer (some a)) (h1 : ptrT T t = true) (hg : o.guard = none) {d : Nat} (hd : o.dst = some d) (hn : Nat.blt d n = true)
    (k : wl P n ops rest Q (upd F d (.bool false)) w) : wl P n ops (o :: rest) Q F w := wl_val hg hd hn (pn_run hT hop hx h1) k
theorem pnn_run (hT : TabOk P T) {t : TypeId} {x : Operand} {yt : TypeId} {A : Option Addr} (hop : o.op = .binOp .neq t x (.const (.pointer none)) yt) (hx : ev F x = .pointer A) (h1 : ptrT T t = true) : (execOp (ev F) o).run P w = .ok (.value (.bool (!A.isNone))) w := by
  unfold ptrT at h1
  split at h1
  · rename_i e1
    have hu := T_u hT e1
    have h2 : (Op.equal t (.pointer A) (.pointer none)).run P w = .ok A.isNone w := by
      unfold Op.equal Op.maxDepth
      rw [show (10000 : Nat) = 9999 + 1 from rfl]
      unfold Op.equalIn
      cases A <;> simp [run_und hu]
    have hy : ev F (.const (.pointer none)) = .pointer none := rfl
    simp [execOp, hop, hx, hy, eqGuard, binOp, h2]
  · cases h1
theorem wl_pqT (hT : TabOk P T) {t : TypeId} {x : Operand} {yt : TypeId} (hop : o.op = .binOp .neq t x (.const (.pointer none)) yt) (hx : ev F x = .pointer none) (h1 : ptrT T t = true) (hg : o.guard = none) {d : Nat} (hd : o.dst = some d) (hn : Nat.blt d n = true)
    (k : wl P n ops rest Q (upd F d (.bool false)) w) : wl P n ops (o :: rest) Q F w := wl_val hg hd hn (pnn_run hT hop hx h1) k
theorem wl_pqF (hT : TabOk P T) {t : TypeId} {x : Operand} {yt : TypeId} {a : Addr} (hop : o.op = .binOp .neq t x (.const (.pointer none)) yt) (hx : ev F x = .pointer (some a)) (h1 : ptrT T t = true) (hg : o.guard = none) {d : Nat} (hd : o.dst = some d) (hn : Nat.blt d n = true)
    (k : wl P n ops rest Q (upd F d (.bool true)) w) : wl P n ops (o :: rest) Q F w := wl_val hg hd hn (pnn_run hT hop hx h1) k
theorem wl_snil (hT : TabOk P T) (e s : Nat) {t : TypeId} {x : Operand} {yt : TypeId} {A : Option Addr} {l c : Nat} (hop : o.op = .binOp .eql t x (.const (.slice none 0 0)) yt) (hx : ev F x = .slice A l c) (h1 : sliceT T t e s = true) (hg : o.guard = none) {d : Nat} (hd : o.dst = some d) (hn : Nat.blt d n = true)
    (k : wl P n ops rest Q (upd F d (.bool A.isNone)) w) : wl P n ops (o :: rest) Q F w := by
  refine wl_val hg hd hn ?_ k
  obtain ⟨hu, _⟩ := sliceT_ok (w := w) hT h1
  have : (Op.equal t (.slice A l c) (.slice none 0 0)).run P w = .ok A.isNone w := by
    unfold Op.equal Op.maxDepth
    rw [show (10000 : Nat) = 9999 + 1 from rfl]
    unfold Op.equalIn
    cases A <;> simp [run_und hu]
  have hy : ev F (.const (.slice none 0 0)) = .slice none 0 0 := rfl
  simp [execOp, hop, hx, hy, eqGuard, binOp, this]
/-! ### cap, cuts with their ends told, functions without a body -/
theorem wl_cap (hT : TabOk P T) (e s : Nat) {c : Call} {x : Operand} {t : TypeId} {A : Option Addr} {l cp : Nat} (hop : o.op = .call c) (hcal : c.callee = .builtin .cap) (hargs : c.args.toList = [x]) (htys : c.argTypes.toList = [t]) (hx : ev F x = .slice A l cp) (h1 : sliceT T t e s = true) (hg : o.guard = none) {d : Nat} (hd : o.dst = some d) (hn : Nat.blt d n = true)
    (k : wl P n ops rest Q (upd F d (.int .i64 cp)) w) : wl P n ops (o :: rest) Q F w := by
  refine wl_val hg hd hn ?_ k
  obtain ⟨hu, _⟩ := sliceT_ok (w := w) hT h1
  obtain ⟨callee, ⟨args⟩, ⟨tys⟩⟩ := c
  simp only at hcal hargs htys
  subst hcal hargs htys
  simp [execOp, hop, resolve, invoke, builtin, hx, Builtin.cap_, run_und hu, goInt]
theorem wl_slLr (hT : TabOk P T) (e s : Nat) {t : TypeId} {x y : Operand} {A B : Option Addr} {l c l2 c2 : Nat} {ki : IntKind} {h : Int} {hn' : Nat} (hh : h = (hn' : Int)) (hB : cutA A hn' c s = B) (hl2 : l2 = l - hn') (hc2 : c2 = c - hn') (hc : hn' ≤ l) (hop : o.op = .slice t x (some y) none none) (hx : ev F x = .slice A l c) (hy : ev F y = .int ki h) (h1 : sliceT T t e s = true) (hg : o.guard = none) {d : Nat} (hd : o.dst = some d) (hn : Nat.blt d n = true)
    (k : wl P n ops rest Q (upd F d (.slice B l2 c2)) w) : wl P n ops (o :: rest) Q F w := by
  subst hh hB hl2 hc2
  refine wl_slL hT e s hop hx hy h1 hg hd hn (by omega) (by omega) ?_
  simpa using k
theorem wq_slLr (hT : TabOk P T) (e s : Nat) {t : TypeId} {x y : Operand} {A B : Option Addr} {l c l2 c2 : Nat} {ki : IntKind} {h : Int} {hn' : Nat} (hh : h = (hn' : Int)) (hB : cutA A hn' c s = B) (hl2 : l2 = l - hn') (hc2 : c2 = c - hn') (hc : hn' ≤ l) (hop : o.op = .slice t x (some y) none none) (hx : ev F x = .slice A l c) (hy : ev F y = .int ki h) (h1 : sliceT T t e s = true) (hg : o.guard = none) {d : Nat} (hd : o.dst = some d) (hn : Nat.blt d n = true)
    (k : wq P n ops C rest K (upd F d (.slice B l2 c2))) : wq P n ops C (o :: rest) K F := by
  subst hh hB hl2 hc2
  refine wq_slL hT e s hop hx hy h1 hg hd hn (by omega) (by omega) ?_
  simpa using k
theorem wl_slHr (hT : TabOk P T) (e s : Nat) {t : TypeId} {x y : Operand} {A : Option Addr} {l c : Nat} {ki : IntKind} {h : Int} {hn' : Nat} (hh : h = (hn' : Int)) (hc : hn' ≤ c) (hop : o.op = .slice t x none (some y) none) (hx : ev F x = .slice A l c) (hy : ev F y = .int ki h) (h1 : sliceT T t e s = true) (hg : o.guard = none) {d : Nat} (hd : o.dst = some d) (hn : Nat.blt d n = true)
    (k : wl P n ops rest Q (upd F d (.slice A hn' c)) w) : wl P n ops (o :: rest) Q F w := by
  subst hh
  refine wl_slH hT e s hop hx hy h1 hg hd hn (by omega) (by omega) ?_
  simpa using k
theorem cut_in {g off i c s : Nat} (h : i < c) : cutA (some ⟨g, off, none⟩) i c s = some ⟨g, off + i * s, none⟩ := by
  unfold cutA
  rw [if_neg (by omega)]
  unfold Addr.add
  simp only [Option.map_some]
  split
  · rename_i e; rw [e]; rfl
  · rfl
theorem wl_ext {f : FuncId} {c : Call} {x : Operand} {args : List Value} {v : Value} (he : (callFunc f args.toArray).run P w = .ok (.value v) w) (hop : o.op = .call c) (hcal : c.callee = .value x) (hx : ev F x = .func (.func f) #[] #[]) (hargs : c.args.toList.map (ev F) = args) (hg : o.guard = none) {d : Nat} (hd : o.dst = some d) (hn : Nat.blt d n = true)
    (k : wl P n ops rest Q (upd F d v) w) : wl P n ops (o :: rest) Q F w := by
  refine wl_val hg hd hn ?_ k
  have : c.args.map (ev F) = args.toArray := Array.toList_inj.1 (by rw [Array.toList_map, hargs])
  simp [execOp, hop, resolve, hcal, hx, Deferred.ofValue, this, invoke, he]
end
end Go.Proofs.Ytomldckplkecbaa

/- Regions that draw their order: one invariant for all orders; the orders are checked over lists. -/
namespace Go.Proofs.Ytomldckplkecbaa
open Go.RowKit
set_option linter.unusedVariables false
set_option linter.unusedSimpArgs false
/-- All but the blocks of rb stays. -/
abbrev Kr (w : World) (rb : List Nat) : World → Prop := fun w' => Kept rb w w'
theorem stable_Kr (w : World) (rb : List Nat) : Stable (Kr w rb) := fun _ _ h h' => h.up h'
def nextL (l : List Oper) (S : List (List Bool)) : List (List Bool) := (S.flatMap fun st => (rdyL l st).map fun i => st.set i true).eraseDups
/-- All ways on, level by level. -/
def exL (l : List Oper) (oth : List Nat) (full : List Bool) : Nat → List (List Bool) → Bool
  | 0, S => S.all fun st => st == full
  | f + 1, S => (S.all fun st => !(rdyL l st).isEmpty && (rdyL l st).all fun i => oth.contains i) && exL l oth full f (nextL l S)
theorem exL_spec {l : List Oper} {oth : List Nat} {full : List Bool} {f : Nat} {S : List (List Bool)} (h : exL l oth full (f + 1) S = true) {st : List Bool} (hs : st ∈ S) : (rdyL l st).isEmpty = false ∧ (∀ i ∈ rdyL l st, i ∈ oth ∧ st.set i true ∈ nextL l S) ∧ exL l oth full f (nextL l S) = true := by
  simp only [exL, Bool.and_eq_true, List.all_eq_true, Bool.not_eq_true'] at h
  obtain ⟨h1, h2⟩ := h
  refine ⟨(h1 st hs).1, fun i hi => ⟨by simpa using (h1 st hs).2 i hi, ?_⟩, h2⟩
  unfold nextL
  rw [List.mem_eraseDups]
  exact List.mem_flatMap.2 ⟨st, hs, List.mem_map.2 ⟨i, hi, rfl⟩⟩
def othB (l : List Oper) (n : Nat) (oth : List Nat) : Bool := oth.all fun i => decide (i < n) && ((l[i]?).map fun o => o.guard.isNone).getD false
theorem exB_of_exL {l : List Oper} {oth : List Nat} {full : List Bool} {g n : Nat} (ho : othB l n oth = true) (hs : Region.seqB .any l.toArray g n full.toArray = true) : ∀ (f : Nat) (S : List (List Bool)) (listed : List Bool), exL l oth full f S = true → listed ∈ S → exB .any l.toArray g n f listed.toArray = true
  | 0, S, listed, h, hm => by
    have e : listed = full := by
      simp only [exL, List.all_eq_true] at h
      simpa using h listed hm
    subst e
    exact hs
  | f + 1, S, listed, h, hm => by
    obtain ⟨h1, h2, h3⟩ := exL_spec h hm
    simp only [exB, rdyL_eq, Bool.and_eq_true, List.all_eq_true]
    refine ⟨by rw [h1]; rfl, fun i hi => ?_⟩
    obtain ⟨h4, h5⟩ := h2 i hi
    have ho' := ho
    simp only [othB, List.all_eq_true, Bool.and_eq_true] at ho'
    obtain ⟨h6, h7⟩ := ho' i h4
    have e : (listed.set i true).toArray = listed.toArray.setIfInBounds i true := by simp
    rw [← e]
    exact ⟨⟨h6, by simpa using h7⟩, exB_of_exL ho hs f _ _ h3 h5⟩
def permL (l : List Oper) (n f : Nat) (oth : List Nat) (full : List Bool) : List Nat → List Bool → Bool
  | [], listed => exL l oth full f [listed]
  | k :: qs, listed => decide (k < n) && (rdyL l listed).contains k && Region.free .any l.toArray listed.toArray k && permL l n f oth full qs (listed.set k true)
theorem permB_of_permL {l : List Oper} {oth : List Nat} {full : List Bool} {g n f : Nat} (ho : othB l n oth = true) (hs : Region.seqB .any l.toArray g n full.toArray = true) : ∀ (qs : List Nat) (listed : List Bool), permL l n f oth full qs listed = true → permB .any l.toArray g n f qs listed.toArray = true
  | [], listed, h => exB_of_exL ho hs f [listed] listed h (by simp)
  | k :: qs, listed, h => by
    simp only [permL, Bool.and_eq_true] at h
    simp only [permB, rdyL_eq, Bool.and_eq_true]
    have e : (listed.set k true).toArray = listed.toArray.setIfInBounds k true := by simp
    rw [← e]
    exact ⟨⟨⟨h.1.1.1, h.1.1.2⟩, h.1.2⟩, permB_of_permL ho hs qs _ h.2⟩
theorem permL_leaf {l : List Oper} {oth : List Nat} {full : List Bool} {n f : Nat} : ∀ (qs : List Nat) (listed : List Bool), permL l n f oth full qs listed = true → exL l oth full f [setAllL qs listed] = true
  | [], listed, h => h
  | k :: qs, listed, h => by
    simp only [permL, Bool.and_eq_true] at h
    exact permL_leaf qs _ h.2
def fullL (n m : Nat) : List Bool := List.replicate n true ++ List.replicate (m - n) false
def permLB (l : List Oper) (qs oth : List Nat) (n : Nat) : Bool :=
  Region.noSelect l.toArray && decide (n < l.toArray.size) && decide (qs.length + oth.length = n) && Region.sinkB .any l.toArray n && Region.chainB .any l.toArray n && othB l n oth && Region.seqB .any l.toArray (l.length - n) n (fullL n l.length).toArray && permL l n oth.length oth (fullL n l.length) qs (List.replicate l.length false)
theorem permAll_of {l : List Oper} {qs oth : List Nat} {n : Nat} (h : permLB l qs oth n = true) : permAll l.toArray qs oth.length n = true := by
  simp only [permLB, Bool.and_eq_true] at h
  obtain ⟨⟨⟨⟨⟨⟨⟨h1, h2⟩, h3⟩, h4⟩, h5⟩, h6⟩, h7⟩, h8⟩ := h
  simp only [permAll, Bool.and_eq_true]
  refine ⟨⟨⟨⟨⟨h1, h2⟩, h3⟩, h4⟩, h5⟩, ?_⟩
  have := permB_of_permL (g := l.length - n) h6 h7 qs _ h8
  have e : (List.replicate l.length false).toArray = Array.replicate l.toArray.size false := by simp
  have e2 : l.toArray.size - n = l.length - n := by simp
  rw [e2, ← e]
  exact this
/-- What is listed of those that an operation waits for. -/
def depsL (o : Oper) (listed : List Bool) : Bool := o.after.toList.all fun e => !Region.binds .any e || listed.getD e.on false
section
variable {P : Program} {T : Nat → Option TI} {n : Nat} {Q : Post} {F : Fm} {w : World} {C : World → Prop}
theorem rdyL_spec {l : List Oper} {listed : List Bool} {i : Nat} (h : i ∈ rdyL l listed) : listed.getD i true = false ∧ ∃ o, l[i]? = some o ∧ depsL o listed = true := by
  simp only [rdyL, List.mem_filter, Bool.and_eq_true, Bool.not_eq_true'] at h
  refine ⟨h.2.1, ?_⟩
  have h2 := h.2.2
  cases ho : l[i]? with
  | none => rw [ho] at h2; cases h2
  | some o => rw [ho] at h2; exact ⟨o, rfl, h2⟩
/-- One invariant for all orders. -/
theorem exF_inv {l : List Oper} {oth : List Nat} {full : List Bool} {T' : Fm → World → Prop} (J : List Bool → Fm → World → Prop)
    (step : ∀ listed F W i o, J listed F W → C W → i ∈ oth → listed.getD i true = false → l[i]? = some o → depsL o listed = true → wb P n o F W fun F2 w2 => C w2 ∧ ∀ W', Below w2.heap.size w2 W' → C W' → J (listed.set i true) F2 W')
    (fin : ∀ F W, J full F W → C W → T' F W) : ∀ (f : Nat) (S : List (List Bool)) (listed : List Bool) (F : Fm) (W : World), exL l oth full f S = true → listed ∈ S → J listed F W → C W → exF P n l C T' f listed F W
  | 0, S, listed, F, W, h, hm, hJ, hC => by
    have e : listed = full := by
      simp only [exL, List.all_eq_true] at h
      simpa using h listed hm
    subst e
    exact fin F W hJ hC
  | f + 1, S, listed, F, W, h, hm, hJ, hC => by
    obtain ⟨_, hn, hx⟩ := exL_spec h hm
    unfold exF
    have key : ∀ L : List Nat, (∀ i ∈ L, i ∈ rdyL l listed) → allL (fun i => opF P n l i F W fun F2 w2 => C w2 ∧ ∀ W', Below w2.heap.size w2 W' → C W' → exF P n l C T' f (listed.set i true) F2 W') L := by
      intro L
      induction L with
      | nil => exact fun _ => trivial
      | cons i L ih =>
        intro hL
        refine ⟨?_, ih fun j hj => hL j (by simp [hj])⟩
        have hi := hL i (by simp)
        obtain ⟨h1, h2⟩ := hn i hi
        obtain ⟨h3, o, h4, h5⟩ := rdyL_spec hi
        show opF P n l i F W _
        unfold opF
        rw [h4]
        have hw := step listed F W i o hJ hC h1 h3 h4 h5
        have mono : ∀ F2 w2, (C w2 ∧ ∀ W', Below w2.heap.size w2 W' → C W' → J (listed.set i true) F2 W') → (C w2 ∧ ∀ W', Below w2.heap.size w2 W' → C W' → exF P n l C T' f (listed.set i true) F2 W') := fun F2 w2 hh => ⟨hh.1, fun W' hW' hC' => exF_inv J step fin f _ _ _ _ hx h2 (hh.2 W' hW' hC') hC'⟩
        refine ⟨hw.dst, ?_⟩
        rcases hw.go with ⟨v, w', a, b⟩ | ⟨fn, args, a, b⟩ | ⟨w', a, b⟩
        · exact .inl ⟨v, w', a, mono _ _ b⟩
        · exact .inr (.inl ⟨fn, args, a, b.mono fun e w' ⟨v, e1, e2⟩ => ⟨v, e1, mono _ _ e2⟩⟩)
        · exact .inr (.inr ⟨w', a, mono _ _ b⟩)
    exact key _ fun i hi => hi
/-- A region that draws its order, by one invariant: qs read alone, oth are the others ahead of the tail, which begins at m. -/
theorem wc_qy {id : Nat} {l : List Oper} (qs oth : List Nat) (m : Nat) (hC : Stable C) (hT : TabOk P T) (hm : P.follows .mixedOrders = true) (hB : permLB l qs oth m = true) (hCw : C w)
    (h : runQ P T n l.toArray C (opsL l qs) (fun F' => ∀ w1, C w1 → Below w.heap.size w w1 → ∃ J : List Bool → Fm → World → Prop, J (setAllL qs (List.replicate l.length false)) F' w1 ∧
      (∀ listed F W i o, J listed F W → C W → i ∈ oth → listed.getD i true = false → l[i]? = some o → depsL o listed = true → wb P n o F W fun F2 w2 => C w2 ∧ ∀ W', Below w2.heap.size w2 W' → C W' → J (listed.set i true) F2 W') ∧
      ∀ F2 W, J (fullL m l.length) F2 W → C W → runG P T n l.toArray (l.drop m) Q F2 W) F) : wc P n (.region id l.toArray true) Q F w := by
  have hB' := hB
  simp only [permLB, Bool.and_eq_true] at hB'
  have hleaf := permL_leaf qs _ hB'.2
  have mono : ∀ a, wpQB P l.toArray C (fun a' => ∃ F', Fr a' n F' ∧ (∀ w1, C w1 → Below w.heap.size w w1 → ∃ J : List Bool → Fm → World → Prop, J (setAllL qs (List.replicate l.length false)) F' w1 ∧
      (∀ listed F W i o, J listed F W → C W → i ∈ oth → listed.getD i true = false → l[i]? = some o → depsL o listed = true → wb P n o F W fun F2 w2 => C w2 ∧ ∀ W', Below w2.heap.size w2 W' → C W' → J (listed.set i true) F2 W') ∧
      ∀ F2 W, J (fullL m l.length) F2 W → C W → runG P T n l.toArray (l.drop m) Q F2 W)) (opsL l qs) a → wpQB P l.toArray C (fun a' => ∃ F', Fr a' n F' ∧ (∀ w1, C w1 → Below w.heap.size w w1 → exF P n l C (fun F2 W => runG P T n l.toArray (l.drop m) Q F2 W) oth.length (setAllL qs (List.replicate l.length false)) F' w1)) (opsL l qs) a := fun a ha =>
    wpQB_mono (fun a' ⟨F', h1, h2⟩ => ⟨F', h1, fun w1 h3 h4 => let ⟨J, j1, j2, j3⟩ := h2 w1 h3 h4; exF_inv J j2 j3 _ _ _ _ _ hleaf (by simp) j1 h3⟩) ha
  unfold wc
  intro a ha
  have hq := mono a ((run_q hT h).go a ha)
  rw [← opsL_eq] at hq
  refine wp_region_perm qs oth.length m hC hm (permAll_of hB) hCw (wpQB_mono ?_ hq)
  rintro a' ⟨F', h2, h3⟩ w1 hw1 hb1
  have := exA_of (T' := wpList P l.toArray (lift n Q) (l.drop m)) (T := fun F2 W => runG P T n l.toArray (l.drop m) Q F2 W) (fun a F W ha h => ?_) _ _ _ _ _ h2 (h3 w1 hw1 hb1)
  · rw [← setAllL_eq] at this
    have e : (List.replicate l.length false).toArray = Array.replicate l.toArray.size false := by simp
    rwa [e] at this
  · have := run_l hT h
    unfold wl at this
    exact this _ ha
theorem xn_run4 (hT : TabOk P T) (e s : Nat) {o : Oper} {t : TypeId} {x ix : Operand} {a : Addr} {len cap : Nat} {ki : IntKind} {i : Nat} (hop : o.op = .indexAddr t x ix) (hx : ev F x = .slice (some a) len cap) (hi : ev F ix = .int ki i) (h1 : sliceT T t e s = true) (hl : i < len) : (execOp (ev F) o).run P w = .ok (.value (.pointer (some (a.add (i * s))))) w := by
  obtain ⟨hu, hs⟩ := sliceT_ok (w := w) hT h1
  have h0 : (0 : Int) ≤ (i : Int) := by omega
  have h2 : (i : Int) < (len : Int) := by omega
  simp [execOp, hop, hx, hi, Instr.indexAt, asIntOf, run_und hu, hs, h2]
  intro hc
  omega
/-- A store, in any order. -/
theorem wb_S (hT : TabOk P T) {o : Oper} {K : Fm → World → Prop} {t t' : TypeId} {x y : Operand} {i : TI} {g off : Nat} {cs : List Value} {v : Value} (hb : w.heap[g]? = some (.cells cs.toArray t' (0, 0))) (hop : o.op = .store t x y) (hx : ev F x = .pointer (some ⟨g, off, none⟩)) (hy : ev F y = v)
    (hi : T t = some i) (h1 : i.size = 1) (hv : v.oneCell' = true) (hoff : off < cs.length) (hd : o.dst = none)
    (k : ∀ w1, Put w w1 g (cs.set off v) t' → K F w1) : wb P n o F w K := by
  refine ⟨by rw [hd]; rfl, .inr (.inr ⟨w.setCell ⟨g, off, none⟩ v, ?_, by rw [hd]; exact k _ (put_setCell hb v)⟩)⟩
  have hs := run_size (w := w) hT hi
  rw [h1] at hs
  have hc : w.cell? ⟨g, off, none⟩ = some cs[off] := cell_blk hb (by simp [hoff])
  have hf : w.frozen? ⟨g, off, none⟩ = false := by simp [World.frozen?, hb]
  cases v <;> simp_all [Value.oneCell', execOp, Instr.storeAt, Instr.sureAddr, storeVar, Value.cells, storeCells, store, Sem.run, Addr.add] <;> rfl
theorem wb_Se (hT : TabOk P T) {o : Oper} {K : Fm → World → Prop} {t t' : TypeId} {x y : Operand} {i : TI} {g j : Nat} {cs : List Value} {v : Value} (hb : w.heap[g]? = some (.cells cs.toArray t' (0, 0))) (hop : o.op = .store t x y) (hx : ev F x = .pointer (some ((⟨g, 0, none⟩ : Addr).add j))) (hy : ev F y = v)
    (hi : T t = some i) (h1 : i.size = 1) (hv : v.oneCell' = true) (hoff : j < cs.length) (hd : o.dst = none)
    (k : ∀ w1, Put w w1 g (cs.set j v) t' → K F w1) : wb P n o F w K :=
  wb_S (off := j) hT hb hop (by rw [hx, add_zero]) hy hi h1 hv hoff hd k
end
end Go.Proofs.Ytomldckplkecbaa

/- copy; rows of rows of one's own. -/
namespace Go.Proofs.Ytomldckplkecbaa
open Go.RowKit
set_option linter.unusedVariables false
set_option linter.unusedSimpArgs false
section
variable {P : Program} {T : Nat → Option TI} {n : Nat} {Q : Post} {F : Fm} {w : World} {ops : Array Oper} {rest : List Oper} {o : Oper}
theorem put_setRow {g : Nat} {cur cs : List Value} {t : TypeId} (hb : w.heap[g]? = some (.cells cur.toArray t (0, 0))) : Put w (w.setRow g cs.toArray) g cs t :=
  ⟨by simp [World.setRow], setRow_heap w g cur.toArray _ t _ hb, ⟨rfl, rfl, rfl, by simp [World.setRow], fun k _ hk => setRow_other w g k _ (fun e => hk (by simp [e]))⟩⟩
/-- copy into a block of one's own, cell by cell. -/
theorem wl_copy (hT : TabOk P T) (e b : Nat) {t t2 t' : TypeId} {c : Call} {x y : Operand} {g dl dc sl sc : Nat} {a : Addr} {cur : List Value} (cs : List Value) (hb : w.heap[g]? = some (.cells cur.toArray t' (0, 0))) (hop : o.op = .call c) (hcal : c.callee = .builtin .copy) (hargs : c.args.toList = [x, y]) (htys : c.argTypes.toList = [t, t2])
    (hx : ev F x = .slice (some ⟨g, 0, none⟩) dl dc) (hy : ev F y = .slice (some a) sl sc) (h1 : appT T t e 1 b = true) (hg : o.guard = none) {d : Nat} (hd : o.dst = some d) (hn : Nat.blt d n = true)
    (hl : cs.length = min sl dl) (hsrc : ∀ j v, cs[j]? = some v → w.cell? (a.add j) = some v) (hfit : cs.length ≤ cur.length) (hone : ∀ v ∈ cs, v.oneCell' = true)
    (k : ∀ w1, Put w w1 g (cs ++ cur.drop cs.length) t' → wl P n ops rest Q (upd F d (goInt cs.length)) w1) : wl P n ops (o :: rest) Q F w := by
  obtain ⟨hu, j, z, hj, hz, hs, hby, hzs⟩ := appT_ok hT h1
  obtain ⟨callee, ⟨args⟩, ⟨tys⟩⟩ := c
  simp only at hcal hargs htys
  subst hcal hargs htys
  have hr := run_copy_row (P := P) w t t2 o.type e g 0 dl dc a sl sc cur.toArray t' cs hu (by rw [hj]; simp [hs]) hb hl hsrc (by simpa using hfit) hone
  refine wl_val hg hd hn ?_ (k _ (put_setRow (cs := cs ++ cur.drop cs.length) hb))
  simp at hr
  simp [execOp, hop, resolve, invoke, builtin, hx, hy, hr]
end
/-- A row of rows of numbers, all of the call's own: g holds the rows' values vs, bl are the blocks where they lie. -/
structure GMat (base g : Nat) (w : World) (vs : List Value) (M : List (List Int)) (bl : List Nat) : Prop where
  blk : w.heap[g]? = some (.cells vs.toArray 24 (0, 0))
  len : vs.length = M.length
  hg : base ≤ g
  gb : g ∉ bl
  lt : ∀ b ∈ bl, base ≤ b ∧ b < w.heap.size
  row : ∀ i, i < M.length → GInts base w vs[i]! M[i]! ∧ ∀ b, vs[i]!.ownBlock = some b → b ∈ bl
  ne : ∀ i j, i < M.length → j < M.length → i ≠ j → ∀ b, vs[i]!.ownBlock = some b → vs[j]!.ownBlock ≠ some b
section
variable {base g : Nat} {w w1 w2 : World} {vs : List Value} {M : List (List Int)} {bl : List Nat}
theorem GMat.stays (h : GMat base g w vs M bl) {row : Option Nat} (hg : w.grownBy w1 row) (h1 : ∀ b, row = some b → b ≠ g ∧ b ∉ bl) : GMat base g w1 vs M bl := by
  refine ⟨(hg.block g (blk_lt h.blk) (fun e => (h1 g e.symm).1 rfl)).trans h.blk, h.len, h.hg, h.gb, fun b hb => ⟨(h.lt b hb).1, Nat.lt_of_lt_of_le (h.lt b hb).2 hg.size⟩, fun i hi => ⟨(h.row i hi).1.stays row hg (by simp) ?_, (h.row i hi).2⟩, h.ne⟩
  cases ho : vs[i]!.ownBlock with
  | none => exact .inl rfl
  | some b => exact .inr fun e => (h1 b e.symm).2 ((h.row i hi).2 b ho)
theorem GMat.below (h : GMat base g w vs M bl) (hb : Below w.heap.size w w1) : GMat base g w1 vs M bl := h.stays (grown_of (row := none) hb) nofun
theorem get_set {α : Type} [Inhabited α] (xs : List α) (i j : Nat) (x : α) (hj : j < xs.length) : (xs.set i x)[j]! = if i = j then x else xs[j]! := by
  rw [getElem!_pos _ j (by simpa using hj), List.getElem_set]
  split
  · rfl
  · rw [getElem!_pos xs j hj]
theorem GMat.app (h : GMat base g w vs M bl) {i : Nat} (hi : i < M.length) {v' : Value} {x : Int} (hv : GInts base w1 v' (M[i]! ++ [x])) (hgr : w.grownBy w1 vs[i]!.ownBlock)
    (hob : v'.ownBlock = vs[i]!.ownBlock ∨ ∃ b, v'.ownBlock = some b ∧ w.heap.size ≤ b) (hp : Put w1 w2 g (vs.set i v') 24) : GMat base g w2 (vs.set i v') (M.set i (M[i]! ++ [x])) (bl ++ v'.ownBlock.toList) := by
  have hgl := blk_lt h.blk
  have hnew : ∀ b, v'.ownBlock = some b → b ∈ bl ∨ w.heap.size ≤ b := fun b e => by
    rcases hob with e1 | ⟨b', e1, e2⟩
    · exact .inl ((h.row i hi).2 b (by rw [← e1]; exact e))
    · rw [e] at e1; cases e1; exact .inr e2
  have hng : ∀ b, v'.ownBlock = some b → b ≠ g := fun b e e' => by
    subst e'
    rcases hnew b e with h1 | h1
    · exact h.gb h1
    · omega
  have hgi : ∀ b, vs[i]!.ownBlock = some b → b ≠ g := fun b e e' => h.gb (e' ▸ (h.row i hi).2 b e)
  refine ⟨hp.blk, by simp [h.len], h.hg, ?_, ?_, ?_, ?_⟩
  · intro hm
    rcases List.mem_append.1 hm with hm | hm
    · exact h.gb hm
    · exact hng g (mem_own hm) rfl
  · intro b hb
    rcases List.mem_append.1 hb with hb | hb
    · exact ⟨(h.lt b hb).1, by rw [hp.size]; exact Nat.lt_of_lt_of_le (h.lt b hb).2 hgr.size⟩
    · rw [hp.size]; exact hv.olt b (mem_own hb)
  · intro j hj
    have hj' : j < M.length := by simpa using hj
    rw [get_set _ _ _ _ (by rw [h.len]; exact hj'), get_set _ _ _ _ hj']
    by_cases e : i = j
    · rw [if_pos e, if_pos e]
      exact ⟨hv.other hp.grown (by simp) (fun b hb => hng b hb), fun b hb => List.mem_append_right _ (by rw [hb]; simp)⟩
    · rw [if_neg e, if_neg e]
      refine ⟨((h.row j hj').1.stays _ hgr (by simp) ?_).other hp.grown (by simp) (fun b hb e' => h.gb (e' ▸ (h.row j hj').2 b hb)), fun b hb => List.mem_append_left _ ((h.row j hj').2 b hb)⟩
      cases ho : vs[j]!.ownBlock with
      | none => exact .inl rfl
      | some b => exact .inr fun e' => h.ne j i hj' hi (fun q => e q.symm) b ho e'.symm
  · intro j k hj hk hjk b hb
    have hj' : j < M.length := by simpa using hj
    have hk' : k < M.length := by simpa using hk
    rw [get_set _ _ _ _ (by rw [h.len]; exact hj')] at hb
    rw [get_set _ _ _ _ (by rw [h.len]; exact hk')]
    have old : ∀ l, l < M.length → vs[l]!.ownBlock = some b → b < w.heap.size := fun l hl e => (h.lt b ((h.row l hl).2 b e)).2
    by_cases e : i = j
    · rw [if_pos e] at hb
      subst e
      rw [if_neg hjk]
      intro e2
      rcases hob with e1 | ⟨b', e1, e3⟩
      · exact h.ne i k hi hk' hjk b (by rw [← e1]; exact hb) e2
      · rw [hb] at e1; cases e1
        have := old k hk' e2
        omega
    · rw [if_neg e] at hb
      by_cases e5 : i = k
      · subst e5
        rw [if_pos rfl]
        intro e2
        rcases hob with e1 | ⟨b', e1, e3⟩
        · exact h.ne j i hj' hi hjk b hb (by rw [← e1]; exact e2)
        · rw [e2] at e1; cases e1
          have := old j hj' hb
          omega
      · rw [if_neg e5]
        exact h.ne j k hj' hk' hjk b hb
theorem GMat.init {n : Nat} (hb : w.heap[g]? = some (.cells (List.replicate n [Value.slice none 0 0]).flatten.toArray 24 (0, 0))) (hg : base ≤ g) : GMat base g w (List.replicate n (.slice none 0 0)) (List.replicate n []) [] := by
  have e : (List.replicate n [Value.slice none 0 0]).flatten = List.replicate n (.slice none 0 0) := by simp
  rw [e] at hb
  have hv : ∀ i, i < n → (List.replicate n (Value.slice none 0 0))[i]! = .slice none 0 0 := fun i hi => by rw [getElem!_pos _ i (by simpa using hi)]; simp
  refine ⟨hb, by simp, hg, by simp, by simp, fun i hi => ?_, fun i j hi hj _ b hb => ?_⟩
  · have hi' : i < n := by simpa using hi
    rw [hv i hi', getElem!_pos _ i hi]
    simp only [List.getElem_replicate]
    exact ⟨GRow.nil .., by simp [Value.ownBlock]⟩
  · rw [hv i (by simpa using hi)] at hb
    cases hb
theorem GMat.rowAt (h : GMat base g w vs M bl) {i : Nat} (hi : i < M.length) : ∃ A c, vs[i]! = .slice A M[i]!.length c ∧ M[i]!.length ≤ c ∧ RI w A M[i]! := (h.row i hi).1.row
theorem GMat.cell (h : GMat base g w vs M bl) {i : Nat} (hi : i < M.length) : w.cell? ((⟨g, 0, none⟩ : Addr).add (i * 1)) = some vs[i]! := by
  rw [Nat.mul_one, add_zero]
  have hi' : i < vs.length := by rw [h.len]; exact hi
  exact cell_blk h.blk (by rw [getElem!_pos vs i hi']; simp [hi'])
theorem GMat.rows (h : GMat base g w vs M bl) (hm : M.length ≤ 9223372036854775807) : RRows w (some ⟨g, 0, none⟩) M := by
  refine row_of_blk h.blk ⟨by rw [h.len]; simp, fun i hi => ?_⟩ hm
  obtain ⟨A, c, e1, e2, e3⟩ := h.rowAt hi
  have hi' : i < vs.length := by rw [h.len]; exact hi
  have e : (vs.drop (i * 1)).take 1 = [vs[i]!] := by
    rw [Nat.mul_one, List.drop_eq_getElem_cons hi', getElem!_pos vs i hi']
    rfl
  rw [e, e1]
  exact ⟨A, c, rfl, e2, e3⟩
end
theorem rowB_of_blk {w : World} {g : Nat} {xs : List Bool} {t : TypeId} (h : w.heap[g]? = some (.cells (vb xs).toArray t (0, 0))) (hm : xs.length ≤ 9223372036854775807) : RowR 1 dB w (some ⟨g, 0, none⟩) xs := by
  refine row_of_blk h ⟨by simp [vb], fun i hi => ?_⟩ hm
  have hi' : i < (vb xs).length := by simpa [vb] using hi
  have e : ((vb xs).drop (i * 1)).take 1 = [.bool xs[i]!] := by
    rw [Nat.mul_one, List.drop_eq_getElem_cons hi', getElem!_pos xs i hi]
    simp [vb]
  rw [e]
  rfl
end Go.Proofs.Ytomldckplkecbaa

/- A row of numbers whose front is taken away; facts that lie in the blocks of one owner. -/
namespace Go.Proofs.Ytomldckplkecbaa
open Go.RowKit
set_option linter.unusedVariables false
set_option linter.unusedSimpArgs false
def vi (xs : List Nat) : List Value := xs.map fun (x : Nat) => Value.int .i64 (x : Int)
theorem vi_len (xs : List Nat) : (vi xs).length = xs.length := by simp [vi]
theorem vi_app (xs ys : List Nat) : vi (xs ++ ys) = vi xs ++ vi ys := by simp [vi]
theorem vi_cons (x : Nat) (ys : List Nat) : vi (x :: ys) = .int .i64 (x : Int) :: vi ys := rfl
/-- A row of numbers of the call's own, wherever in its block it begins. -/
structure QRow (base : Nat) (V : Value) (xs : List Nat) (fp : List Nat) (w : World) : Prop where
  ex : (xs = [] ∧ fp = [] ∧ ∃ A, V = .slice A 0 0) ∨ ∃ (g : Nat) (pre post : List Value), fp = [g] ∧ V = .slice (some ⟨g, pre.length, none⟩) xs.length (xs.length + post.length) ∧ base ≤ g ∧
    w.heap[g]? = some (.cells (pre ++ vi xs ++ post).toArray 3 (0, 0)) ∧ xs.length + post.length ≤ 9223372036854775807
section
variable {base : Nat} {V : Value} {xs r fp : List Nat} {w w1 : World} {x : Nat}
theorem QRow.keep (h : QRow base V xs fp w) (hb : ∀ b ∈ fp, w1.heap[b]? = w.heap[b]?) : QRow base V xs fp w1 := by
  rcases h.ex with h | ⟨g, pre, post, h1, h2, h3, h4, h5⟩
  · exact ⟨.inl h⟩
  · exact ⟨.inr ⟨g, pre, post, h1, h2, h3, (hb g (by simp [h1])).trans h4, h5⟩⟩
theorem QRow.lt (h : QRow base V xs fp w) : ∀ b ∈ fp, base ≤ b ∧ b < w.heap.size := by
  rcases h.ex with ⟨_, rfl, _⟩ | ⟨g, pre, post, rfl, h2, h3, h4, h5⟩
  · simp
  · intro b hb; simp at hb; subst hb; exact ⟨h3, blk_lt h4⟩
theorem QRow.form (h : QRow base V xs fp w) : ∃ A c, V = .slice A xs.length c ∧ xs.length ≤ c := by
  rcases h.ex with ⟨rfl, _, A, rfl⟩ | ⟨g, pre, post, h1, h2, h3, h4, h5⟩
  · exact ⟨A, 0, rfl, by simp⟩
  · exact ⟨_, _, h2, by omega⟩
theorem QRow.nil (A : Option Addr) : QRow base (.slice A 0 0) [] [] w := ⟨.inl ⟨rfl, rfl, A, rfl⟩⟩
theorem QRow.head {A : Option Addr} {l c : Nat} (h : QRow base (.slice A l c) (x :: r) fp w) : ∃ ad, A = some ad ∧ w.cell? (ad.add (0 * 1)) = some (.int .i64 (x : Int)) := by
  rcases h.ex with ⟨h1, _⟩ | ⟨g, pre, post, h1, h2, h3, h4, h5⟩
  · cases h1
  · injection h2 with h2 _ _
    subst h2
    refine ⟨_, rfl, ?_⟩
    show w.cell? ⟨g, pre.length, none⟩ = _
    refine cell_blk h4 ?_
    simp [vi_cons]
theorem QRow.tail {A : Option Addr} {l c : Nat} (h : QRow base (.slice A l c) (x :: r) fp w) : ∃ fp', QRow base (.slice (cutA A 1 c 1) r.length (c - 1)) r fp' w ∧ ∀ b ∈ fp', b ∈ fp := by
  rcases h.ex with ⟨h1, _⟩ | ⟨g, pre, post, h1, h2, h3, h4, h5⟩
  · cases h1
  · injection h2 with h2 h6 h7
    subst h2 h7
    by_cases h0 : (x :: r).length + post.length = 1
    · have hr : r = [] := by cases r with | nil => rfl | cons => simp at h0; omega
      subst hr
      have hp : post = [] := by cases post with | nil => rfl | cons => simp at h0
      subst hp
      exact ⟨[], ⟨.inl ⟨rfl, rfl, _, rfl⟩⟩, by simp⟩
    · refine ⟨[g], ⟨.inr ⟨g, pre ++ [.int .i64 (x : Int)], post, rfl, ?_, h3, ?_, ?_⟩⟩, by simp [h1]⟩
      · have hlt : 1 < (x :: r).length + post.length := by simp at h0 ⊢; omega
        rw [cut_in hlt]
        simp
      · rw [h4]; simp [vi_cons]
      · simp at h5 ⊢; omega
end
section
variable {P : Program} {T : Nat → Option TI} {n : Nat} {Q : Post} {F : Fm} {w : World} {ops : Array Oper} {rest : List Oper} {o : Oper}
theorem own_q {base b' : Nat} {V : Value} {xs : List Nat} {m : Nat} (h : w.ownsRow b' 3 1 V m (vi xs)) (hb : base ≤ b') (hm : m = xs.length) : QRow base V xs V.ownBlock.toList w := by
  subst hm
  rcases h.2 with ⟨rfl, h0⟩ | ⟨g, cap, cur, rfl, hbg, hg, hnc, hcm, hcs, htake⟩
  · have : xs = [] := List.eq_nil_of_length_eq_zero h0
    subst this
    exact ⟨.inl ⟨rfl, rfl, _, rfl⟩⟩
  · refine ⟨.inr ⟨g, [], cur.toList.drop xs.length, rfl, ?_, by omega, ?_, ?_⟩⟩
    · have : xs.length + (cur.toList.drop xs.length).length = cap := by simp; omega
      rw [this]; rfl
    · rw [hg]
      have e : vi xs = cur.toList.take xs.length := by rw [Nat.mul_one] at htake; exact htake.symm
      rw [List.nil_append, e, List.take_append_drop]
    · simp only [maxLen] at hcm
      simp; omega
/-- append(q, v). -/
theorem qap_run (hT : TabOk P T) (hi8 : appT T 24 3 1 8 = true) {base : Nat} {V : Value} {xs fp : List Nat} {v : Nat} {c : Call} {x y : Operand} {g1 cc : Nat} {t' : TypeId}
    (h : QRow base V xs fp w) (hb1 : w.heap[g1]? = some (.cells #[.int .i64 (v : Int)] t' (0, 0))) (hop : o.op = .call c) (hcal : c.callee = .builtin .append) (hargs : c.args.toList = [x, y]) (htys : c.argTypes.toList = [24, 24])
    (hx : ev F x = V) (hy : ev F y = .slice (some ⟨g1, 0, none⟩) 1 cc) (hl : xs.length < 1099511627776) (hbase : base ≤ w.heap.size) :
    ∃ V' w1 fp', (execOp (ev F) o).run P w = .ok (.value V') w1 ∧ QRow base V' (xs ++ [v]) fp' w1 ∧ Kept fp w w1 ∧ ∀ b ∈ fp', b ∈ fp ∨ w.heap.size ≤ b := by
  obtain ⟨hu, j, z, hj, hz, hs, hby, hzs⟩ := appT_ok hT hi8
  obtain ⟨callee, ⟨args⟩, ⟨tys⟩⟩ := c
  simp only at hcal hargs htys
  subst hcal hargs htys
  have hnews : ∀ k u, ([Value.int .i64 (v : Int)] : List Value)[k]? = some u → w.cell? ((⟨g1, 0, none⟩ : Addr).add k) = some u := fun k u hu => by
    rw [add_zero]
    refine cell_blk hb1 ?_
    simpa using hu
  have hone : ∀ u ∈ ([Value.int .i64 (v : Int)] : List Value), u.oneCell' = true := by simp [Value.oneCell']
  have hvi : vi xs ++ [Value.int .i64 (v : Int)] = vi (xs ++ [v]) := by simp [vi]
  have grow : ∀ (b : Addr) (cap : Nat), V = .slice (some b) xs.length cap → cap < xs.length + 1 → (∀ k u, (vi xs)[k]? = some u → w.cell? (b.add k) = some u) → ∃ V' w1 fp', (execOp (ev F) o).run P w = .ok (.value V') w1 ∧ QRow base V' (xs ++ [v]) fp' w1 ∧ Kept fp w w1 ∧ ∀ b ∈ fp', b ∈ fp ∨ w.heap.size ≤ b := fun b cap hV hc holds => by
    obtain ⟨V', w1, hr, ho, hg⟩ := run_append_arg_grows (P := P) w 24 o.type 3 j z 1 8 hu hj hz hs hby hzs (by omega) b xs.length cap (vi xs) (by simp [vi_len]) holds ⟨g1, 0, none⟩ 1 cc [Value.int .i64 (v : Int)] (by simp) hnews hc (by simp only [maxLen]; omega) (by omega)
    rw [hvi] at ho
    refine ⟨V', w1, V'.ownBlock.toList, ?_, own_q ho hbase (by simp), Kept.grown (row := none) (Kept.refl _ _) hg nofun, fun b hb => .inr ?_⟩
    · rw [hV] at hx
      simp [execOp, hop, resolve, invoke, builtin, hx, hy, hr]
    · exact (ho.lt b (mem_own hb)).1
  rcases h.ex with ⟨rfl, rfl, A, hV⟩ | ⟨g, pre, post, hf, hV, h3, h4, h5⟩
  · cases A with
    | some b => exact grow b 0 hV (by simp) (by simp [vi])
    | none =>
      obtain ⟨V', w1, hr, ho, hg, _, hob⟩ := run_append_own_at (P := P) w base 24 o.type 3 j z 1 8 hu hj hz hs hby hzs (by omega) (.slice none 0 0) 0 [] (own_nil ..) ⟨g1, 0, none⟩ 1 cc _ (by simp) hnews hone (by simp only [maxLen]; omega) (by omega) hbase
      have e : ([] : List Value) ++ [Value.int .i64 (v : Int)] = vi ([] ++ [v]) := by simp [vi]
      rw [e] at ho
      refine ⟨V', w1, V'.ownBlock.toList, ?_, own_q ho (Nat.le_refl _) (by simp), Kept.grown (row := none) (Kept.refl _ _) hg nofun, fun b hb => .inr ?_⟩
      · rw [hV] at hx
        simp [execOp, hop, resolve, invoke, builtin, hx, hy, hr]
      · have hb' := mem_own hb
        rcases hob with e | e
        · rw [e] at hb'; cases hb'
        · rw [e] at hb'; cases hb'; exact Nat.le_refl _
  · by_cases hp : post = []
    · refine grow _ _ hV (by simp [hp]) fun k u hu => ?_
      rw [Addr.add_lit]
      refine cell_blk h4 ?_
      have hk := (List.getElem?_eq_some_iff.1 hu).1
      simp only [List.getElem?_toArray]
      rw [List.append_assoc, List.getElem?_append_right (by omega), Nat.add_sub_cancel_left, List.getElem?_append_left hk]
      exact hu
    · obtain ⟨p0, pr, rfl⟩ : ∃ p0 pr, post = p0 :: pr := by cases post with | nil => exact absurd rfl hp | cons a l => exact ⟨a, l, rfl⟩
      have hf' := run_firstCells_some (P := P) w j.size 1 ⟨g1, 0, none⟩ 1 cc [Value.int .i64 (v : Int)] (by simp [hs]) hnews
      have hst := run_storeCells_at P g (pre.length + xs.length) 3 [Value.int .i64 (v : Int)] 0 _ w h4 (by simp [vi_len]; omega) hone
      have hroom : xs.length + 1 ≤ xs.length + (p0 :: pr).length := by simp
      have hr : (Builtin.append_ #[24, 24] o.type #[.slice (some ⟨g, pre.length, none⟩) xs.length (xs.length + (p0 :: pr).length), .slice (some ⟨g1, 0, none⟩) 1 cc]).run P w = .ok (.slice (some ⟨g, pre.length, none⟩) (xs.length + 1) (xs.length + (p0 :: pr).length)) (w.setRow g (pre ++ vi (xs ++ [v]) ++ pr).toArray) := by
        have e : (((pre ++ vi xs ++ p0 :: pr).toArray.toList.take (pre.length + xs.length + 0)) ++ [Value.int .i64 (v : Int)] ++ (pre ++ vi xs ++ p0 :: pr).toArray.toList.drop (pre.length + xs.length + 0 + [Value.int .i64 (v : Int)].length)) = pre ++ vi (xs ++ [v]) ++ pr := by
          have hl1 : (pre ++ vi xs).length = pre.length + xs.length := by simp [vi_len]
          have e1 : pre ++ vi xs ++ p0 :: pr = (pre ++ vi xs) ++ ([p0] ++ pr) := by simp
          rw [e1]
          simp only [Nat.add_zero]
          rw [← hl1, List.take_left]
          have e2 : (pre ++ vi xs).length + [Value.int .i64 (v : Int)].length = ((pre ++ vi xs) ++ [p0]).length := by simp; omega
          rw [e2, ← List.append_assoc (pre ++ vi xs), List.drop_left, ← hvi]
          simp
        rw [e] at hst
        rw [hs] at hf'
        simp [Builtin.append_, run_underlying hu, sizeOf, typeInfo, hj, hs, Builtin.lenOf, hf', Addr.add_lit, hst]
      have hpt := put_setRow (cs := pre ++ vi (xs ++ [v]) ++ pr) h4
      have hq : QRow base (.slice (some ⟨g, pre.length, none⟩) (xs.length + 1) (xs.length + (p0 :: pr).length)) (xs ++ [v]) [g] (w.setRow g (pre ++ vi (xs ++ [v]) ++ pr).toArray) := ⟨.inr ⟨g, pre, pr, rfl, by simp; omega, h3, hpt.blk, by simp at h5 ⊢; omega⟩⟩
      have hkp : Kept fp w (w.setRow g (pre ++ vi (xs ++ [v]) ++ pr).toArray) := Kept.put (Kept.refl _ _) hpt (.inl (by simp [hf]))
      refine ⟨_, _, [g], ?_, hq, hkp, fun b hb => .inl (by rw [hf]; exact hb)⟩
      rw [hV] at hx
      simp only [List.length_cons, List.append_assoc] at hr hx
      simp [execOp, hop, resolve, invoke, builtin, hx, hy, hr]
end
/-! ### owners -/
/-- A fact that lies in blocks of owner k. -/
def AtF (O : Nat → Nat) (k : Nat) (w : World) (P : List Nat → World → Prop) : Prop := ∃ fp : List Nat, (∀ b ∈ fp, O b = k ∧ b < w.heap.size) ∧ ∀ w', (∀ b ∈ fp, w'.heap[b]? = w.heap[b]?) → P fp w'
def newO (O : Nat → Nat) (s k : Nat) : Nat → Nat := fun b => if b < s then O b else k
theorem newO_old {O : Nat → Nat} {s k b : Nat} (h : b < s) : newO O s k b = O b := if_pos h
theorem newO_new {O : Nat → Nat} {s k b : Nat} (h : s ≤ b) : newO O s k b = k := if_neg (by omega)
section
variable {O O1 O2 : Nat → Nat} {k j : Nat} {w w1 w2 : World} {P Q : List Nat → World → Prop} {f : Nat → List Nat → World → Prop}
theorem AtF.now (h : AtF O k w P) : ∃ fp, P fp w ∧ ∀ b ∈ fp, O b = k ∧ b < w.heap.size := let ⟨fp, h1, h2⟩ := h; ⟨fp, h2 w fun _ _ => rfl, h1⟩
theorem AtF.imp (h : AtF O k w P) (hi : ∀ fp w, P fp w → Q fp w) : AtF O k w Q := let ⟨fp, h1, h2⟩ := h; ⟨fp, h1, fun w' hw => hi _ _ (h2 w' hw)⟩
theorem AtF.keep (h : AtF O k w P) (hO : ∀ b, b < w.heap.size → O1 b = O b) (hs : w.heap.size ≤ w1.heap.size) (hb : ∀ b, b < w.heap.size → O b = k → w1.heap[b]? = w.heap[b]?) : AtF O1 k w1 P := by
  obtain ⟨fp, h1, h2⟩ := h
  exact ⟨fp, fun b hb' => ⟨by rw [hO b (h1 b hb').2]; exact (h1 b hb').1, Nat.lt_of_lt_of_le (h1 b hb').2 hs⟩, fun w' hw => h2 w' fun b hb' => (hw b hb').trans (hb b (h1 b hb').2 (h1 b hb').1)⟩
theorem AtF.tr : AtF O k w fun _ _ => True := ⟨[], by simp, fun _ _ => trivial⟩
/-- All facts, each by its owner. -/
def All (O : Nat → Nat) (w : World) (f : Nat → List Nat → World → Prop) : Prop := ∀ k, AtF O k w (f k)
def updF (f : Nat → List Nat → World → Prop) (k : Nat) (P : List Nat → World → Prop) : Nat → List Nat → World → Prop := fun j => if j = k then P else f j
/-- What blocks of other owners than 50 to 99 come to; the owners stay. -/
structure Stp (O O1 : Nat → Nat) (w w1 : World) : Prop where
  os : w1.os = w.os
  tape : w1.tape = w.tape
  output : w1.output = w.output
  size : w.heap.size ≤ w1.heap.size
  own : ∀ b, b < w.heap.size → O1 b = O b
  fr : ∀ b, b < w.heap.size → 50 ≤ O b → O b < 100 → w1.heap[b]? = w.heap[b]?
theorem Stp.refl (O : Nat → Nat) (w : World) : Stp O O w w := ⟨rfl, rfl, rfl, Nat.le_refl _, fun _ _ => rfl, fun _ _ _ _ => rfl⟩
theorem Stp.trans (h : Stp O O1 w w1) (k : Stp O1 O2 w1 w2) : Stp O O2 w w2 :=
  ⟨k.os.trans h.os, k.tape.trans h.tape, k.output.trans h.output, Nat.le_trans h.size k.size, fun b hb => (k.own b (Nat.lt_of_lt_of_le hb h.size)).trans (h.own b hb),
   fun b hb h1 h2 => (k.fr b (Nat.lt_of_lt_of_le hb h.size) (by rw [h.own b hb]; exact h1) (by rw [h.own b hb]; exact h2)).trans (h.fr b hb h1 h2)⟩
theorem Stp.up (hb : Below w.heap.size w w1) (k : Nat) : Stp O (newO O w.heap.size k) w w1 := ⟨hb.os, hb.tape, hb.output, hb.size, fun _ h => newO_old h, fun b h _ _ => hb.block b h⟩
theorem Stp.kept {rb : List Nat} (hk : Kept rb w w1) (hr : ∀ b ∈ rb, b < w.heap.size → O b = k) (h5 : k < 50 ∨ 100 ≤ k) (k' : Nat) : Stp O (newO O w.heap.size k') w w1 :=
  ⟨hk.os, hk.tape, hk.output, hk.size, fun _ h => newO_old h, fun b h h1 h2 => hk.block b h fun hm => by have := hr b hm h; omega⟩
theorem Stp.below {base : Nat} (h : Stp O O1 w w1) (hl : ∀ b, b < base → O b = 99) (hb : base ≤ w.heap.size) : Below base w w1 :=
  ⟨h.os, h.tape, h.output, h.size, fun b hlt => h.fr b (by omega) (by rw [hl b hlt]; omega) (by rw [hl b hlt]; omega)⟩
theorem Stp.low {base : Nat} (h : Stp O O1 w w1) (hl : ∀ b, b < base → O b = 99) (hb : base ≤ w.heap.size) : ∀ b, b < base → O1 b = 99 := fun b hlt => by rw [h.own b (by omega)]; exact hl b hlt
theorem AtF.stp (h : AtF O k w P) (hs : Stp O O1 w w1) (h1 : 50 ≤ k) (h2 : k < 100) : AtF O1 k w1 P := h.keep hs.own hs.size fun b hb e => hs.fr b hb (by omega) (by omega)
theorem All.up (h : All O w f) (hb : Below w.heap.size w w1) (k : Nat) : All (newO O w.heap.size k) w1 f := fun j => (h j).keep (fun _ => newO_old) hb.size fun b hlt _ => hb.block b hlt
/-- Owner k's fact becomes P. -/
theorem All.put {rb fp : List Nat} (h : All O w f) (hk : Kept rb w w1) (hr : ∀ b ∈ rb, b < w.heap.size → O b = k) (hfp : ∀ b ∈ fp, (b < w.heap.size → O b = k) ∧ b < w1.heap.size) (hP : ∀ w', (∀ b ∈ fp, w'.heap[b]? = w1.heap[b]?) → P fp w') : All (newO O w.heap.size k) w1 (updF f k P) := fun j => by
  unfold updF
  split
  · rename_i e
    subst e
    refine ⟨fp, fun b hb => ⟨?_, (hfp b hb).2⟩, hP⟩
    by_cases hlt : b < w.heap.size
    · rw [newO_old hlt]; exact (hfp b hb).1 hlt
    · rw [newO_new (by omega)]
  · rename_i e
    exact (h j).keep (fun _ => newO_old) hk.size fun b hb ho => hk.block b hb fun hm => e (by rw [← ho]; exact hr b hm hb)
theorem All.imp {f' : Nat → List Nat → World → Prop} (h : All O w f) (hi : ∀ j fp w, f j fp w → f' j fp w) : All O w f' := fun j => (h j).imp (hi j)
end
end Go.Proofs.Ytomldckplkecbaa

/- Knots: the search's state in memory. -/
namespace Go.Proofs.Ytomldckplkecbaa
open Go.RowKit
set_option linter.unusedVariables false
set_option linter.unusedSimpArgs false
def fI (n : Nat) (f : Nat → Nat) : List Value := (List.range n).map fun v => Value.int .i64 (f v : Int)
def fB (n : Nat) (f : Nat → Bool) : List Value := (List.range n).map fun v => Value.bool (f v)
theorem fI_len (n : Nat) (f : Nat → Nat) : (fI n f).length = n := by simp [fI]
theorem fB_len (n : Nat) (f : Nat → Bool) : (fB n f).length = n := by simp [fB]
theorem fI_get {n v : Nat} {f : Nat → Nat} (h : v < n) : (fI n f)[v]? = some (.int .i64 (f v : Int)) := by simp [fI, h]
theorem fB_get {n v : Nat} {f : Nat → Bool} (h : v < n) : (fB n f)[v]? = some (.bool (f v)) := by simp [fB, h]
theorem range_setF {α : Type} (h : Nat → α) (n v : Nat) (x : α) : ((List.range n).map h).set v x = (List.range n).map (setF h v x) := by
  apply List.ext_getElem?
  intro i
  rw [List.getElem?_set]
  by_cases e : v = i
  · subst e
    by_cases hv : v < n
    · simp [hv, setF]
    · simp [hv]
  · by_cases hi : i < n
    · rw [if_neg e]
      have : i ≠ v := fun e2 => e e2.symm
      simp [hi, setF, this]
    · rw [if_neg e]
      simp [hi]
theorem fI_set (n : Nat) (f : Nat → Nat) (v x : Nat) : (fI n f).set v (.int .i64 (x : Int)) = fI n (setF f v x) := by
  unfold fI
  rw [range_setF]
  congr 1
  funext j
  unfold setF
  split <;> rfl
theorem fB_set (n : Nat) (f : Nat → Bool) (v : Nat) (x : Bool) : (fB n f).set v (.bool x) = fB n (setF f v x) := by
  unfold fB
  rw [range_setF]
  congr 1
  funext j
  unfold setF
  split <;> rfl
/-- Where the search's things lie. -/
structure KC where
  n : Nat
  A : Option Addr
  c : Nat
  gT : Nat
  gi : Nat
  gl : Nat
  gn : Nat
  go : Nat
  base : Nat
def kbox (c : KC) (s : TS) (vk vn : Value) : List Value :=
  [.slice c.A c.n c.c, .slice (some ⟨c.gi, 0, none⟩) c.n c.n, .slice (some ⟨c.gl, 0, none⟩) c.n c.n, .slice (some ⟨c.gn, 0, none⟩) c.n c.n, vk, .slice (some ⟨c.go, 0, none⟩) c.n c.n, .int .i64 (s.cnt : Int), vn]
def knI (kn : List (List Nat)) : List (List Int) := kn.map fun l => l.map fun (x : Nat) => (x : Int)
/-- Each owner's fact. 0 the search itself; 1 index; 2 low; 3 on; 4 of; 5 the stack; 6 the knots. -/
def kcomp (c : KC) (s : TS) (vk vn : Value) : Nat → List Nat → World → Prop
  | 0 => fun fp w => fp = [c.gT] ∧ w.heap[c.gT]? = some (.cells (kbox c s vk vn).toArray 58 (0, 0))
  | 1 => fun fp w => fp = [c.gi] ∧ w.heap[c.gi]? = some (.cells (fI c.n s.idx).toArray 3 (0, 0))
  | 2 => fun fp w => fp = [c.gl] ∧ w.heap[c.gl]? = some (.cells (fI c.n s.low).toArray 3 (0, 0))
  | 3 => fun fp w => fp = [c.gn] ∧ w.heap[c.gn]? = some (.cells (fB c.n s.on).toArray 4 (0, 0))
  | 4 => fun fp w => fp = [c.go] ∧ w.heap[c.go]? = some (.cells (fI c.n s.of).toArray 3 (0, 0))
  | 5 => fun fp w => fp = vk.ownBlock.toList ∧ w.ownsRow c.base 3 1 vk s.stk.length (vi s.stk)
  | 6 => fun fp w => ∃ bs, fp = vn.ownBlock.toList ++ bs ∧ GRow 1 dInts 24 c.base w vn (knI s.kn) bs
  | _ => fun _ _ => True
structure KS (c : KC) (O : Nat → Nat) (w : World) (s : TS) (vk vn : Value) : Prop where
  all : All O w (kcomp c s vk vn)
  low : ∀ b, b < c.base → O b = 99
  sz : c.base ≤ w.heap.size
section
variable {c : KC} {O : Nat → Nat} {w w1 : World} {s : TS} {vk vn : Value}
theorem KS.up (h : KS c O w s vk vn) (hb : Below w.heap.size w w1) (k : Nat) : KS c (newO O w.heap.size k) w1 s vk vn :=
  ⟨h.all.up hb k, fun b hlt => by rw [newO_old (by have := h.sz; omega)]; exact h.low b hlt, Nat.le_trans h.sz hb.size⟩
theorem KS.box (h : KS c O w s vk vn) : w.heap[c.gT]? = some (.cells (kbox c s vk vn).toArray 58 (0, 0)) ∧ O c.gT = 0 := by
  obtain ⟨fp, ⟨e, h1⟩, h2⟩ := (h.all 0).now
  exact ⟨h1, (h2 c.gT (by rw [e]; simp)).1⟩
theorem KS.bi (h : KS c O w s vk vn) : w.heap[c.gi]? = some (.cells (fI c.n s.idx).toArray 3 (0, 0)) ∧ O c.gi = 1 := by
  obtain ⟨fp, ⟨e, h1⟩, h2⟩ := (h.all 1).now
  exact ⟨h1, (h2 c.gi (by rw [e]; simp)).1⟩
theorem KS.bl (h : KS c O w s vk vn) : w.heap[c.gl]? = some (.cells (fI c.n s.low).toArray 3 (0, 0)) ∧ O c.gl = 2 := by
  obtain ⟨fp, ⟨e, h1⟩, h2⟩ := (h.all 2).now
  exact ⟨h1, (h2 c.gl (by rw [e]; simp)).1⟩
theorem KS.bn (h : KS c O w s vk vn) : w.heap[c.gn]? = some (.cells (fB c.n s.on).toArray 4 (0, 0)) ∧ O c.gn = 3 := by
  obtain ⟨fp, ⟨e, h1⟩, h2⟩ := (h.all 3).now
  exact ⟨h1, (h2 c.gn (by rw [e]; simp)).1⟩
theorem KS.bo (h : KS c O w s vk vn) : w.heap[c.go]? = some (.cells (fI c.n s.of).toArray 3 (0, 0)) ∧ O c.go = 4 := by
  obtain ⟨fp, ⟨e, h1⟩, h2⟩ := (h.all 4).now
  exact ⟨h1, (h2 c.go (by rw [e]; simp)).1⟩
theorem KS.stack (h : KS c O w s vk vn) : w.ownsRow c.base 3 1 vk s.stk.length (vi s.stk) ∧ ∀ b, vk.ownBlock = some b → O b = 5 := by
  obtain ⟨fp, ⟨e, h1⟩, h2⟩ := (h.all 5).now
  exact ⟨h1, fun b hb => (h2 b (by rw [e, hb]; simp)).1⟩
theorem KS.knots (h : KS c O w s vk vn) : ∃ bs, GRow 1 dInts 24 c.base w vn (knI s.kn) bs ∧ (∀ b, vn.ownBlock = some b → O b = 6) ∧ ∀ b ∈ bs, O b = 6 := by
  obtain ⟨fp, ⟨bs, e, h1⟩, h2⟩ := (h.all 6).now
  exact ⟨bs, h1, fun b hb => (h2 b (by rw [e, hb]; simp)).1, fun b hb => (h2 b (by rw [e]; simp [hb])).1⟩
/-- A step from one state to the next one: what holds of each owner, and what others see. -/
theorem KS.next {O1 : Nat → Nat} {s1 : TS} {vk1 vn1 : Value} (h : KS c O w s vk vn) (ha : All O1 w1 (kcomp c s1 vk1 vn1)) (hs : Stp O O1 w w1) : KS c O1 w1 s1 vk1 vn1 :=
  ⟨ha, hs.low h.low h.sz, Nat.le_trans h.sz hs.size⟩
end
/-! ### steps by owners -/
section
variable {O O1 : Nat → Nat} {k g : Nat} {w w1 w2 : World} {P : List Nat → World → Prop} {f : Nat → List Nat → World → Prop}
/-- All facts, and how the world came of an elder one. -/
structure KA (O : Nat → Nat) (w : World) (O1 : Nat → Nat) (w1 : World) (f : Nat → List Nat → World → Prop) : Prop where
  all : All O1 w1 f
  stp : Stp O O1 w w1
theorem KA.start (h : All O w f) : KA O w O w f := ⟨h, Stp.refl _ _⟩
theorem KA.up (h : KA O w O1 w1 f) (hb : Below w1.heap.size w1 w2) (k : Nat) : KA O w (newO O1 w1.heap.size k) w2 f := ⟨h.all.up hb k, h.stp.trans (Stp.up hb k)⟩
theorem KA.put {rb fp : List Nat} (h : KA O w O1 w1 f) (h5 : k < 50 ∨ 100 ≤ k) (hk : Kept rb w1 w2) (hr : ∀ b ∈ rb, b < w1.heap.size → O1 b = k) (hfp : ∀ b ∈ fp, (b < w1.heap.size → O1 b = k) ∧ b < w2.heap.size) (hP : ∀ w', (∀ b ∈ fp, w'.heap[b]? = w2.heap[b]?) → P fp w') : KA O w (newO O1 w1.heap.size k) w2 (updF f k P) :=
  ⟨h.all.put hk hr hfp hP, h.stp.trans (Stp.kept hk hr h5 k)⟩
theorem KA.putB {cs : List Value} {t : TypeId} (h : KA O w O1 w1 f) (h5 : k < 50 ∨ 100 ≤ k) (hp : Put w1 w2 g cs t) (hO : O1 g = k) (hP : ∀ w', w'.heap[g]? = some (.cells cs.toArray t (0, 0)) → P [g] w') : KA O w (newO O1 w1.heap.size k) w2 (updF f k P) :=
  h.put h5 (rb := [g]) (fp := [g]) (Kept.put (Kept.refl _ _) hp (.inl (by simp))) (by simpa using fun _ => hO) (by simpa using ⟨fun _ => hO, blk_lt hp.blk⟩) fun w' hw => hP w' ((hw g (by simp)).trans hp.blk)
theorem KA.imp {f' : Nat → List Nat → World → Prop} (h : KA O w O1 w1 f) (hi : ∀ j fp w, f j fp w → f' j fp w) : KA O w O1 w1 f' := ⟨h.all.imp hi, h.stp⟩
end
end Go.Proofs.Ytomldckplkecbaa
