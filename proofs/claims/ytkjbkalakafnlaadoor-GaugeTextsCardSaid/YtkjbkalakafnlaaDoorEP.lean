/- Sets of numbers in memory: rows of blocks; what leaves all but some blocks as it was; steps that their functions need. -/
import Derived.Test.YtkjbkalakafnlaaDoorE10
import Derived.Test.YtkjbkalakafnlaaDoorU0
import Derived.Test.YtkjbkalakafnlaaDoorPO03
import Derived.Lib.Overlaps
namespace Go.Proofs.YtkjbkalakafnlaaDoor
open Go.RowKit
set_option linter.unusedVariables false
set_option linter.unusedSimpArgs false
/-- All that was there is as it was, but for the blocks of rb. -/
structure Kept (rb : List Nat) (w w' : World) : Prop where
  os : w'.os = w.os
  tape : w'.tape = w.tape
  output : w'.output = w.output
  size : w.heap.size ≤ w'.heap.size
  block : ∀ k, k < w.heap.size → k ∉ rb → w'.heap[k]? = w.heap[k]?
section
variable {rb rb2 : List Nat} {w w1 w2 : World}
theorem Kept.of (h : Below w.heap.size w w1) : Kept rb w w1 := ⟨h.os, h.tape, h.output, h.size, fun k hk _ => h.block k hk⟩
theorem Kept.refl (rb : List Nat) (w : World) : Kept rb w w := Kept.of (Below.refl _ _)
theorem Kept.below_nil (h : Kept [] w w1) : Below w.heap.size w w1 := ⟨h.os, h.tape, h.output, h.size, fun k hk => h.block k hk (by simp)⟩
/-- One step more; what it writes that is new doesn't count. -/
theorem Kept.trans (h : Kept rb w w1) (k : Kept rb2 w1 w2) (hs : ∀ b ∈ rb2, b ∈ rb ∨ w.heap.size ≤ b) : Kept rb w w2 :=
  ⟨k.os.trans h.os, k.tape.trans h.tape, k.output.trans h.output, Nat.le_trans h.size k.size, fun i hi hn => (k.block i (Nat.lt_of_lt_of_le hi h.size) (fun hm => (hs i hm).elim hn (fun h3 => by omega))).trans (h.block i hi hn)⟩
theorem Kept.up (h : Kept rb w w1) (k : Below w1.heap.size w1 w2) : Kept rb w w2 := h.trans (Kept.of (rb := []) k) (by simp)
theorem Kept.put (h : Kept rb w w1) {g : Nat} {cs : List Value} {t : TypeId} (hp : Put w1 w2 g cs t) (hg : g ∈ rb ∨ w.heap.size ≤ g) : Kept rb w w2 :=
  h.trans (rb2 := [g]) ⟨hp.grown.os, hp.grown.tape, hp.grown.output, hp.grown.size, fun k hk hn => hp.grown.block k hk (by simp; intro e; subst e; exact hn (by simp))⟩ (by simpa using hg)
theorem Kept.grown {row : Option Nat} (h : Kept rb w w1) (hg : w1.grownBy w2 row) (hr : ∀ g, row = some g → g ∈ rb ∨ w.heap.size ≤ g) : Kept rb w w2 :=
  h.trans (rb2 := row.toList) ⟨hg.os, hg.tape, hg.output, hg.size, fun k hk hn => hg.block k hk (fun e => hn (by simp [← e]))⟩ (fun b hb => hr b (by simpa using hb))
theorem Kept.blk (h : Kept rb w w1) {g : Nat} {o : Obj} (hb : w.heap[g]? = some o) (hn : g ∉ rb) : w1.heap[g]? = some o := (h.block g (blk_lt hb) hn).trans hb
theorem Kept.below {w0 : World} {B : Nat} (h : Kept rb w w1) (hb : Below B w0 w) (hB : B ≤ w.heap.size) (hr : ∀ k ∈ rb, B ≤ k) : Below B w0 w1 :=
  hb.trans ⟨h.os, h.tape, h.output, h.size, fun k hk => h.block k (Nat.lt_of_lt_of_le hk hB) fun hm => by have := hr k hm; omega⟩
theorem Kept.more (h : Kept rb w w1) (hs : ∀ b ∈ rb, b ∈ rb2) : Kept rb2 w w1 := ⟨h.os, h.tape, h.output, h.size, fun k hk hn => h.block k hk (fun hm => hn (hs k hm))⟩
end
/-! ### Blocks of numbers -/
def dBlk : Dec Blk := fun _ cs b => cs = [.int .i64 b.a, .int .u64 (b.w : Int)]
theorem stays_Blk : Stays dBlk := ⟨fun _ _ _ _ _ h => h⟩
def blkC (b : Blk) : List Value := [.int .i64 b.a, .int .u64 (b.w : Int)]
def flatB (bs : List Blk) : List Value := bs.flatMap blkC
theorem flatB_len (bs : List Blk) : (flatB bs).length = bs.length * 2 := by
  induction bs with
  | nil => rfl
  | cons b bs ih =>
    have : (flatB (b :: bs)).length = 2 + (flatB bs).length := by simp [flatB, blkC]; omega
    rw [this, ih, List.length_cons]; omega
theorem flatB_app (xs ys : List Blk) : flatB (xs ++ ys) = flatB xs ++ flatB ys := by simp [flatB]
theorem flatB_one (b : Blk) : flatB [b] = blkC b := by simp [flatB]
theorem flatB_cons (b : Blk) (bs : List Blk) : flatB (b :: bs) = blkC b ++ flatB bs := by simp [flatB]
theorem flatB_take (bs : List Blk) (i : Nat) (hi : i ≤ bs.length) : (flatB bs).take (i * 2) = flatB (bs.take i) := by
  conv => lhs; rw [← List.take_append_drop i bs, flatB_app]
  rw [List.take_append_of_le_length (by rw [flatB_len, List.length_take]; omega), List.take_of_length_le (by rw [flatB_len, List.length_take]; omega)]
theorem flatB_drop (bs : List Blk) (i : Nat) (hi : i ≤ bs.length) : (flatB bs).drop (i * 2) = flatB (bs.drop i) := by
  conv => lhs; rw [← List.take_append_drop i bs, flatB_app]
  have e : (flatB (bs.take i)).length = i * 2 := by rw [flatB_len]; simp; omega
  rw [← e, List.drop_left]
theorem flatB_at (bs : List Blk) (i : Nat) (hi : i < bs.length) : ((flatB bs).drop (i * 2)).take 2 = blkC bs[i]! := by
  rw [flatB_drop bs i (by omega), getElem!_pos bs i hi, List.drop_eq_getElem_cons hi, flatB_cons]
  rfl
theorem elemsB (w : World) (bs : List Blk) : Elems 2 dBlk w (flatB bs) bs := ⟨flatB_len bs, fun i hi => flatB_at bs i hi⟩
theorem elemsB_eq {w : World} : ∀ {bs : List Blk} {flat : List Value}, Elems 2 dBlk w flat bs → flat = flatB bs
  | [], flat, h => by
    have := h.1
    simp at this
    rw [this]; rfl
  | b :: bs, flat, h => by
    have h0 := h.2 0 (by simp)
    simp only [Nat.zero_mul, List.drop_zero] at h0
    have h0 : flat.take 2 = blkC b := by simpa [dBlk, blkC] using h0
    have ht : Elems 2 dBlk w (flat.drop 2) bs := by
      refine ⟨by have := h.1; simp at this ⊢; omega, fun i hi => ?_⟩
      have := h.2 (i + 1) (by simpa using hi)
      rw [List.drop_drop]
      have e : 2 + i * 2 = (i + 1) * 2 := by omega
      rw [e]
      simpa using this
    rw [flatB_cons, ← h0, ← elemsB_eq ht, List.take_append_drop]
theorem oneB (bs : List Blk) : ∀ u ∈ flatB bs, u.oneCell' = true := by
  intro u hu
  obtain ⟨b, _, hb⟩ := List.mem_flatMap.1 hu
  simp [blkC] at hb
  rcases hb with rfl | rfl <;> rfl
theorem one_Blk : OneC dBlk := fun w cs x h u hu => by
  rw [show cs = blkC x from h] at hu
  simp [blkC] at hu
  rcases hu with rfl | rfl <;> rfl
abbrev ownsB (w : World) (base : Nat) (V : Value) (bs : List Blk) : Prop := w.ownsRow base 104 2 V bs.length (flatB bs)
theorem ownsB.row {w : World} {base : Nat} {V : Value} {bs : List Blk} (h : ownsB w base V bs) : ∃ A c, V = .slice A bs.length c ∧ bs.length ≤ c ∧ RowR 2 dBlk w A bs := row_of_own h rfl (elemsB w bs)
theorem ownsB.rowAt {w : World} {base : Nat} {A : Option Addr} {n c : Nat} {bs : List Blk} (h : ownsB w base (.slice A n c) bs) : n = bs.length ∧ bs.length ≤ c ∧ RowR 2 dBlk w A bs := by
  obtain ⟨A', c', e1, h1, h2⟩ := h.row
  injection e1 with e1 e2 e3
  subst e1 e2 e3
  exact ⟨rfl, h1, h2⟩
theorem ownsB.keep {w w1 : World} {base : Nat} {V : Value} {bs : List Blk} (h : ownsB w base V bs) (hb : ∀ b, V.ownBlock = some b → w1.heap[b]? = w.heap[b]?) : ownsB w1 base V bs := by
  refine ⟨h.1, h.2.imp id ?_⟩
  rintro ⟨g, cap, cur, h4, h5, h6, h7⟩
  refine ⟨g, cap, cur, h4, h5, ?_, h7⟩
  rw [hb g (by rw [h4]; rfl)]
  exact h6
theorem ownsB.lower {w : World} {base b' : Nat} {V : Value} {bs : List Blk} (h : ownsB w base V bs) (hb : b' ≤ base) : ownsB w b' V bs := by
  refine ⟨h.1, h.2.imp id ?_⟩
  rintro ⟨g, cap, cur, h4, h5, h6⟩
  exact ⟨g, cap, cur, h4, Nat.le_trans hb h5, h6⟩
/-- A block's two cells, where they lie. -/
theorem rowB_at {w : World} {A : Option Addr} {bs : List Blk} (h : RowR 2 dBlk w A bs) (i : Nat) (hi : i < bs.length) : ∃ ad, A = some ad ∧ cellsAt w (ad.add (i * 2)) 0 [.int .i64 bs[i]!.a, .int .u64 (bs[i]!.w : Int)] := by
  obtain ⟨ad, cs, e, _, hc, hd⟩ := row_at h i hi
  rw [show cs = _ from hd] at hc
  exact ⟨ad, e, hc⟩
/-! ### A set -/
structure PSet (base g : Nat) (w : World) (bs : List Blk) (fp : List Nat) : Prop where
  ex : ∃ V, w.heap[g]? = some (.cells #[V] 91 (0, 0)) ∧ ownsB w base V bs ∧ fp = g :: V.ownBlock.toList ∧ V.ownBlock ≠ some g
  ge : base ≤ g
  wf : WFB bs
section
variable {base g : Nat} {w w1 : World} {bs : List Blk} {fp : List Nat}
theorem PSet.lt (h : PSet base g w bs fp) : ∀ b ∈ fp, base ≤ b ∧ b < w.heap.size := by
  obtain ⟨V, h1, h2, rfl, _⟩ := h.ex
  intro b hb
  rcases List.mem_cons.1 hb with rfl | hb
  · exact ⟨h.ge, blk_lt h1⟩
  · exact h2.lt b (mem_own hb)
theorem PSet.keep (h : PSet base g w bs fp) (hb : ∀ b ∈ fp, w1.heap[b]? = w.heap[b]?) : PSet base g w1 bs fp := by
  obtain ⟨V, h1, h2, rfl, h4⟩ := h.ex
  exact ⟨⟨V, (hb g (by simp)).trans h1, h2.keep (fun b e => hb b (by simp [e])), rfl, h4⟩, h.ge, h.wf⟩
theorem PSet.up (h : PSet base g w bs fp) (hb : Below w.heap.size w w1) : PSet base g w1 bs fp := h.keep fun b hb' => hb.block b (h.lt b hb').2
theorem PSet.kept {rb : List Nat} (h : PSet base g w bs fp) (hk : Kept rb w w1) (hd : ∀ b ∈ fp, b ∉ rb) : PSet base g w1 bs fp := h.keep fun b hb' => hk.block b (h.lt b hb').2 (hd b hb')
theorem PSet.lower {b' : Nat} (h : PSet base g w bs fp) (hb : b' ≤ base) : PSet b' g w bs fp := by
  obtain ⟨V, h1, h2, h3, h4⟩ := h.ex
  exact ⟨⟨V, h1, h2.lower hb, h3, h4⟩, Nat.le_trans hb h.ge, h.wf⟩
end
/-! ### Steps -/
section
variable {P : Program} {T : Nat → Option TI} {n : Nat} {Q : Post} {F : Fm} {w : World} {ops : Array Oper} {rest : List Oper} {o : Oper} {K : Fm → Prop} {C : World → Prop}
/-- A function of two results. -/
theorem fin2 {fn : Func} {R : Ending → World → Prop} {s t : Tmp} {u v : Value} (hr : fn.results = #[.tmp s, .tmp t]) (hu : opn (F s) = some u) (hv : opn (F t) = some v) (h : R (.returned (.tuple #[u, v])) w) : Fin P fn R F w := by
  rw [opn_eq] at hu hv
  have hu := Option.some.inj hu
  have hv := Option.some.inj hv
  unfold Fin retQ
  intro tmps ht
  refine ⟨.tuple #[u, v], ?_, h⟩
  rw [results_tmp2 hr tmps P w, ht s, ht t, hu, hv]
def arrT (T : Nat → Option TI) (t e s len : Nat) : Bool := match T t, T e with
  | some ⟨.array l e', _, _, _⟩, some i => Nat.beq e' e && Nat.beq i.size s && Nat.beq l len
  | _, _ => false
theorem wl_XA (hT : TabOk P T) (e s len : Nat) {t : TypeId} {x ix : Operand} {a : Addr} {ki : IntKind} {i : Nat} (hop : o.op = .indexAddr t x ix) (hx : ev F x = .pointer (some a)) (hi : ev F ix = .int ki i) (h1 : arrT T t e s len = true) (hg : o.guard = none) {d : Nat} (hd : o.dst = some d) (hn : Nat.blt d n = true)
    (hl : i < len) (k : wl P n ops rest Q (upd F d (.pointer (some (a.add (i * s))))) w) : wl P n ops (o :: rest) Q F w := by
  refine wl_val hg hd hn ?_ k
  unfold arrT at h1
  split at h1
  · rename_i l e' sz by_ z i2 e1 e2
    simp only [Bool.and_eq_true] at h1
    have h2 := Nat.eq_of_beq_eq_true h1.1.1
    have h3 := Nat.eq_of_beq_eq_true h1.1.2
    have h4 := Nat.eq_of_beq_eq_true h1.2
    subst h2 h3 h4
    have hu := T_u hT e1
    have hs := run_size (w := w) hT e2
    simp [execOp, hop, hx, hi, Instr.indexAt, asIntOf, run_und hu, hs, hl, Instr.sureAddr]
  · cases h1
/-- append(v, make(.., m)...), where there is no room. -/
theorem wl_apz (hT : TabOk P T) (e s b : Nat) {t tn : TypeId} {kn : IntKind} {c : Call} {x y : Operand} {g sLen sCap m : Nat} {mi : Int} {i : TI} {olds z : List Value} {cur : List Value} {t' : TypeId} (hop : o.op = .call c) (hcal : c.callee = .builtin .append) (hargs : c.args.toList = [x, y]) (htys : c.argTypes.toList = [t, tn])
    (hx : ev F x = .slice (some ⟨g, 0, none⟩) sLen sCap) (hmi : mi = (m : Int)) (hy : ev F y = .int .i64 mi) (h1 : appT T t e s b = true) (htn : P.underlying tn = some (.int kn)) (hi : T e = some i) (hz : i.zero.cells = z.toArray) (hs0 : Nat.blt 0 s = true) (hg : o.guard = none) {d : Nat} (hd : o.dst = some d) (hn : Nat.blt d n = true)
    (hb : w.heap[g]? = some (.cells cur.toArray t' (0, 0))) (hol : olds = cur.take (sLen * s)) (hl : sLen * s ≤ cur.length) (hm0 : 0 < m) (hgr : sCap < sLen + m) (hbig : (sLen + m) * b ≤ 140737488355328) (h63 : sLen + m ≤ 9223372036854775807)
    (k : ∀ cap w1 more, New w w1 w.heap.size (olds ++ (List.replicate m z).flatten ++ more) e → sLen + m ≤ cap → cap ≤ maxLen → (olds ++ (List.replicate m z).flatten ++ more).length = cap * s → wl P n ops rest Q (upd F d (.slice (some ⟨w.heap.size, 0, none⟩) (sLen + m) cap)) w1) : wl P n ops (o :: rest) Q F w := by
  subst hmi
  obtain ⟨hu, j, z', hj, hz', hs, hby, hzs⟩ := appT_ok hT h1
  obtain ⟨j2, hj2, hz2, _, _⟩ := T_i hT hi
  rw [hj] at hj2
  cases hj2
  rw [hz'] at hz2
  cases hz2
  obtain ⟨callee, ⟨args⟩, ⟨tys⟩⟩ := c
  simp only at hcal hargs htys
  subst hcal hargs htys
  have hlen : (cur.take (sLen * s)).length = sLen * s := by simp; omega
  have hold : (Builtin.firstCells j.size sLen (.slice (some ⟨g, 0, none⟩) sLen sCap)).run P w.drew = .ok olds.toArray w.drew := by
    have := run_loadCells_list (P := P) w.drew ⟨g, 0, none⟩ olds (fun q u hu => by
      have e : w.drew.cell? ((⟨g, 0, none⟩ : Addr).add q) = w.cell? ((⟨g, 0, none⟩ : Addr).add q) := rfl
      rw [e, add_zero]
      refine cell_blk hb ?_
      rw [hol] at hu
      rw [List.getElem?_take] at hu
      split at hu
      · simpa using hu
      · cases hu)
    rw [hol, hlen] at this
    simp only [Builtin.firstCells, hs, hol]
    exact this
  have hneed : sLen + m ≤ maxLen := by simp only [maxLen]; omega
  have hfit : Builtin.nextslicecap (sLen + m) sCap * j.bytes ≤ 281474976710656 := growslice_fits hgr (by rw [hby]; exact hbig)
  have hmb : m * j.bytes ≤ 281474976710656 := by
    have : m * j.bytes ≤ (sLen + m) * b := by rw [hby]; exact Nat.mul_le_mul_right _ (by omega)
    omega
  have hr := Lib.run_append_grow_zeros (P := P) w t tn o.type e j i.zero .i64 kn hu htn hj hz' (some ⟨g, 0, none⟩) sLen sCap olds hold m hm0 (by rw [hs]; exact nblt hs0) hgr (by omega) hmb hfit
  have hzl : z.length = s := by rw [hz] at hzs; simpa using hzs
  have hc : ∀ q, Builtin.zeroCells i.zero.cells q = ((List.replicate q z).flatten).toArray := fun q => by
    rw [← zeros_eq z q]
    unfold Builtin.zeroCells
    rw [hz]
    apply Array.ext'
    simp
  rw [hc, hc] at hr
  refine wl_val hg hd hn (v := .slice (some ⟨w.heap.size, 0, none⟩) (sLen + m) (grownCap w (sLen + m) sCap e)) (w1 := w.drew.alloc (.cells (olds ++ (List.replicate m z).flatten ++ (List.replicate (grownCap w (sLen + m) sCap e - (sLen + m)) z).flatten).toArray e)) ?_ (k _ _ (List.replicate (grownCap w (sLen + m) sCap e - (sLen + m)) z).flatten ?_ (grownCap_ge ..) (grownCap_le_maxLen _ _ _ _ hneed) ?_)
  · simp only [List.append_toArray] at hr
    simp [execOp, hop, resolve, invoke, builtin, hx, hy, hr]
  · have hn2 := new_alloc w.drew (olds ++ (List.replicate m z).flatten ++ (List.replicate (grownCap w (sLen + m) sCap e - (sLen + m)) z).flatten) e
    exact ⟨hn2.at_, hn2.size, hn2.blk, ⟨hn2.below.os, hn2.below.tape, hn2.below.output, hn2.below.size, hn2.below.block⟩⟩
  · have hge := grownCap_ge w (sLen + m) sCap e
    have : grownCap w (sLen + m) sCap e = sLen + m + (grownCap w (sLen + m) sCap e - (sLen + m)) := by omega
    rw [this]
    simp only [List.length_append, List.length_flatten, List.map_replicate, List.sum_replicate_nat, hol, hlen, hzl, Nat.add_mul, Nat.add_sub_cancel_left]
/-! ### nil or not -/
def ptrT (T : Nat → Option TI) (t : Nat) : Bool := match T t with
  | some ⟨.pointer _, _, _, _⟩ => true
  | _ => false
theorem pn_run (hT : TabOk P T) {t : TypeId} {x : Operand} {yt : TypeId} {A : Option Addr} (hop : o.op = .binOp .eql t x (.const (.pointer none)) yt) (hx : ev F x = .pointer A) (h1 : ptrT T t = true) : (execOp (ev F) o).run P w = .ok (.value (.bool A.isNone)) w := by
  unfold ptrT at h1
  split at h1
  · rename_i e1
    have hu := T_u hT e1
    have h2 : (Op.equal t (.pointer A) (.pointer none)).run P w = .ok A.isNone w := by
      unfold Op.equal Op.maxDepth
      rw [show (10000 : Nat) = 9999 + 1 from rfl]
      unfold Op.equalIn
      cases A <;> simp [run_und hu]
    have hy : ev F (.const (.pointer none)) = .pointer none := rfl
    simp [execOp, hop, hx, hy, eqGuard, binOp, h2]
  · cases h1
theorem wl_pnT (hT : TabOk P T) {t : TypeId} {x : Operand} {yt : TypeId} (hop : o.op = .binOp .eql t x (.const (.pointer none)) yt) (hx : ev F x = .pointer none) (h1 : ptrT T t = true) (hg : o.guard = none) {d : Nat} (hd : o.dst = some d) (hn : Nat.blt d n = true)
    (k : wl P n ops rest Q (upd F d (.bool true)) w) : wl P n ops (o :: rest) Q F w := wl_val hg hd hn (pn_run hT hop hx h1) k
theorem wl_pnF (hT : TabOk P T) {t : TypeId} {x : Operand} {yt : TypeId} {a : Addr} (hop : o.op = .binOp .eql t x (.const (.pointer none)) yt) (hx : ev F x = .pointer (some a)) (h1 : ptrT T t = true) (hg : o.guard = none) {d : Nat} (hd : o.dst = some d) (hn : Nat.blt d n = true)
    (k : wl P n ops rest Q (upd F d (.bool false)) w) : wl P n ops (o :: rest) Q F w := wl_val hg hd hn (pn_run hT hop hx h1) k
theorem pnn_run (hT : TabOk P T) {t : TypeId} {x : Operand} {yt : TypeId} {A : Option Addr} (hop : o.op = .binOp .neq t x (.const (.pointer none)) yt) (hx : ev F x = .pointer A) (h1 : ptrT T t = true) : (execOp (ev F) o).run P w = .ok (.value (.bool (!A.isNone))) w := by
  unfold ptrT at h1
  split at h1
  · rename_i e1
    have hu := T_u hT e1
    have h2 : (Op.equal t (.pointer A) (.pointer none)).run P w = .ok A.isNone w := by
      unfold Op.equal Op.maxDepth
      rw [show (10000 : Nat) = 9999 + 1 from rfl]
      unfold Op.equalIn
      cases A <;> simp [run_und hu]
    have hy : ev F (.const (.pointer none)) = .pointer none := rfl
    simp [execOp, hop, hx, hy, eqGuard, binOp, h2]
  · cases h1
theorem wl_pqT (hT : TabOk P T) {t : TypeId} {x : Operand} {yt : TypeId} (hop : o.op = .binOp .neq t x (.const (.pointer none)) yt) (hx : ev F x = .pointer none) (h1 : ptrT T t = true) (hg : o.guard = none) {d : Nat} (hd : o.dst = some d) (hn : Nat.blt d n = true)
    (k : wl P n ops rest Q (upd F d (.bool false)) w) : wl P n ops (o :: rest) Q F w := wl_val hg hd hn (pnn_run hT hop hx h1) k
theorem wl_pqF (hT : TabOk P T) {t : TypeId} {x : Operand} {yt : TypeId} {a : Addr} (hop : o.op = .binOp .neq t x (.const (.pointer none)) yt) (hx : ev F x = .pointer (some a)) (h1 : ptrT T t = true) (hg : o.guard = none) {d : Nat} (hd : o.dst = some d) (hn : Nat.blt d n = true)
    (k : wl P n ops rest Q (upd F d (.bool true)) w) : wl P n ops (o :: rest) Q F w := wl_val hg hd hn (pnn_run hT hop hx h1) k
theorem wl_snil (hT : TabOk P T) (e s : Nat) {t : TypeId} {x : Operand} {yt : TypeId} {A : Option Addr} {l c : Nat} (hop : o.op = .binOp .eql t x (.const (.slice none 0 0)) yt) (hx : ev F x = .slice A l c) (h1 : sliceT T t e s = true) (hg : o.guard = none) {d : Nat} (hd : o.dst = some d) (hn : Nat.blt d n = true)
    (k : wl P n ops rest Q (upd F d (.bool A.isNone)) w) : wl P n ops (o :: rest) Q F w := by
  refine wl_val hg hd hn ?_ k
  obtain ⟨hu, _⟩ := sliceT_ok (w := w) hT h1
  have : (Op.equal t (.slice A l c) (.slice none 0 0)).run P w = .ok A.isNone w := by
    unfold Op.equal Op.maxDepth
    rw [show (10000 : Nat) = 9999 + 1 from rfl]
    unfold Op.equalIn
    cases A <;> simp [run_und hu]
  have hy : ev F (.const (.slice none 0 0)) = .slice none 0 0 := rfl
  simp [execOp, hop, hx, hy, eqGuard, binOp, this]
/-! ### cap, cuts with their ends told, functions without a body -/
theorem wl_cap (hT : TabOk P T) (e s : Nat) {c : Call} {x : Operand} {t : TypeId} {A : Option Addr} {l cp : Nat} (hop : o.op = .call c) (hcal : c.callee = .builtin .cap) (hargs : c.args.toList = [x]) (htys : c.argTypes.toList = [t]) (hx : ev F x = .slice A l cp) (h1 : sliceT T t e s = true) (hg : o.guard = none) {d : Nat} (hd : o.dst = some d) (hn : Nat.blt d n = true)
    (k : wl P n ops rest Q (upd F d (.int .i64 cp)) w) : wl P n ops (o :: rest) Q F w := by
  refine wl_val hg hd hn ?_ k
  obtain ⟨hu, _⟩ := sliceT_ok (w := w) hT h1
  obtain ⟨callee, ⟨args⟩, ⟨tys⟩⟩ := c
  simp only at hcal hargs htys
  subst hcal hargs htys
  simp [execOp, hop, resolve, invoke, builtin, hx, Builtin.cap_, run_und hu, goInt]
theorem wl_slLr (hT : TabOk P T) (e s : Nat) {t : TypeId} {x y : Operand} {A B : Option Addr} {l c l2 c2 : Nat} {ki : IntKind} {h : Int} {hn' : Nat} (hh : h = (hn' : Int)) (hB : cutA A hn' c s = B) (hl2 : l2 = l - hn') (hc2 : c2 = c - hn') (hc : hn' ≤ l) (hop : o.op = .slice t x (some y) none none) (hx : ev F x = .slice A l c) (hy : ev F y = .int ki h) (h1 : sliceT T t e s = true) (hg : o.guard = none) {d : Nat} (hd : o.dst = some d) (hn : Nat.blt d n = true)
    (k : wl P n ops rest Q (upd F d (.slice B l2 c2)) w) : wl P n ops (o :: rest) Q F w := by
  subst hh hB hl2 hc2
  refine wl_slL hT e s hop hx hy h1 hg hd hn (by omega) (by omega) ?_
  simpa using k
theorem wq_slLr (hT : TabOk P T) (e s : Nat) {t : TypeId} {x y : Operand} {A B : Option Addr} {l c l2 c2 : Nat} {ki : IntKind} {h : Int} {hn' : Nat} (hh : h = (hn' : Int)) (hB : cutA A hn' c s = B) (hl2 : l2 = l - hn') (hc2 : c2 = c - hn') (hc : hn' ≤ l) (hop : o.op = .slice t x (some y) none none) (hx : ev F x = .slice A l c) (hy : ev F y = .int ki h) (h1 : sliceT T t e s = true) (hg : o.guard = none) {d : Nat} (hd : o.dst = some d) (hn : Nat.blt d n = true)
    (k : wq P n ops C rest K (upd F d (.slice B l2 c2))) : wq P n ops C (o :: rest) K F := by
  subst hh hB hl2 hc2
  refine wq_slL hT e s hop hx hy h1 hg hd hn (by omega) (by omega) ?_
  simpa using k
theorem wl_slHr (hT : TabOk P T) (e s : Nat) {t : TypeId} {x y : Operand} {A : Option Addr} {l c : Nat} {ki : IntKind} {h : Int} {hn' : Nat} (hh : h = (hn' : Int)) (hc : hn' ≤ c) (hop : o.op = .slice t x none (some y) none) (hx : ev F x = .slice A l c) (hy : ev F y = .int ki h) (h1 : sliceT T t e s = true) (hg : o.guard = none) {d : Nat} (hd : o.dst = some d) (hn : Nat.blt d n = true)
    (k : wl P n ops rest Q (upd F d (.slice A hn' c)) w) : wl P n ops (o :: rest) Q F w := by
  subst hh
  refine wl_slH hT e s hop hx hy h1 hg hd hn (by omega) (by omega) ?_
  simpa using k
theorem cut_in {g off i c s : Nat} (h : i < c) : cutA (some ⟨g, off, none⟩) i c s = some ⟨g, off + i * s, none⟩ := by
  unfold cutA
  rw [if_neg (by omega)]
  unfold Addr.add
  simp only [Option.map_some]
  split
  · rename_i e; rw [e]; rfl
  · rfl
theorem wl_ext {f : FuncId} {c : Call} {x : Operand} {args : List Value} {v : Value} (he : (callFunc f args.toArray).run P w = .ok (.value v) w) (hop : o.op = .call c) (hcal : c.callee = .value x) (hx : ev F x = .func (.func f) #[] #[]) (hargs : c.args.toList.map (ev F) = args) (hg : o.guard = none) {d : Nat} (hd : o.dst = some d) (hn : Nat.blt d n = true)
    (k : wl P n ops rest Q (upd F d v) w) : wl P n ops (o :: rest) Q F w := by
  refine wl_val hg hd hn ?_ k
  have : c.args.map (ev F) = args.toArray := Array.toList_inj.1 (by rw [Array.toList_map, hargs])
  simp [execOp, hop, resolve, hcal, hx, Deferred.ofValue, this, invoke, he]
end
end Go.Proofs.YtkjbkalakafnlaaDoor
