/- Several texts of one claim in one file: PH18 EW17 EV17 F03 H03. -/
import Derived.Test.YtjggjhgbobmkhaaY14
import Derived.Test.YtjggjhgbobmkhaaY6
import Derived.Test.YtjggjhgbobmkhaaY4
import Derived.Maps.RangeWalk
import Derived.Test.YtjggjhgbobmkhaaY5
/- Sets of sources, and their numbering: plain. -/
namespace Go.Proofs.Ytjggjhgbobmkhaa
set_option linter.unusedVariables false
set_option linter.unusedSimpArgs false
section
variable {vars nc : Nat} {into bases : List (List Int)} {lo : List Bool} {kn : List (List Nat)} {of : Nat → Nat}
theorem GS.lt (hG : GOk vars into bases lo) (hnc : nc ≤ 16384) {v j : Nat} (hv : v < into.length) (h : GS vars nc into bases lo v j) : j < 65536 := by
  obtain ⟨u, h1, h2⟩ := h
  have hu : u < into.length := h1.closed (P := fun x => x < into.length) (fun a b _ e => e.lt.2) hv
  have hni := hG.ni
  have hs := hG.small
  rcases h2 with ⟨h3, h4⟩ | ⟨_, h4⟩
  · have := hG.rb u (by rw [hG.nb]; exact h3) _ h4
    omega
  · omega
end
/-- A set of numbers below a bound has few blocks. -/
theorem blocks_le {bs : List Blk} (h : WFB bs) {q : Nat} (hm : ∀ m, memB bs m = true → m < 64 * q) : bs.length ≤ q := by
  have up : ∀ i, i < bs.length → (i : Int) ≤ bs[i]!.a := by
    intro i
    induction i with
    | zero => intro hi; exact (h.rng _ (mem_getB hi)).1
    | succ i ih =>
      intro hi
      have h1 := ih (by omega)
      have h2 := h.up i (i + 1) (by omega) hi
      omega
  rcases Nat.eq_zero_or_pos bs.length with h0 | h0
  · omega
  · have hi : bs.length - 1 < bs.length := by omega
    have h1 := up _ hi
    have hr := h.rng _ (mem_getB hi)
    obtain ⟨b, hb, ht⟩ := bit_some hr.2.2.1 hr.2.2.2
    have hd := num_div bs[bs.length - 1]!.a hr.1 b hb
    have h2 := h.at_ (n := 64 * bs[bs.length - 1]!.a.toNat + b) hi hd.1.symm
    rw [hd.2, ht] at h2
    have := hm _ h2
    omega
/-- Numbers, given as they come. -/
def nxt (l : Nat → Int) : Nat → Nat
  | 0 => 0
  | v + 1 => if l v = (nxt l v : Int) then nxt l v + 1 else nxt l v
theorem nxt_congr {l k : Nat → Int} : ∀ {v : Nat}, (∀ u, u < v → l u = k u) → nxt l v = nxt k v
  | 0, _ => rfl
  | v + 1, h => by
    have h1 := nxt_congr (v := v) fun u hu => h u (by omega)
    unfold nxt
    rw [h1, h v (by omega)]
theorem nxt_at {l : Nat → Int} : ∀ (v x : Nat), x < nxt l v → ∃ u, u < v ∧ l u = (x : Int)
  | 0, x, h => by cases h
  | v + 1, x, h => by
    unfold nxt at h
    split at h
    · rename_i e
      by_cases hx : x = nxt l v
      · exact ⟨v, by omega, by rw [hx]; exact e⟩
      · obtain ⟨u, h1, h2⟩ := nxt_at (l := l) v x (by omega)
        exact ⟨u, by omega, h2⟩
    · obtain ⟨u, h1, h2⟩ := nxt_at (l := l) v x h
      exact ⟨u, by omega, h2⟩
structure Canon (n : Nat) (l : Nat → Int) (E : Nat → Nat → Prop) (Z : Nat → Prop) : Prop where
  none : ∀ v, v < n → (l v = -1 ↔ Z v)
  same : ∀ v u, v < n → u < n → (l v = l u ↔ E v u)
  le : ∀ v, v < n → -1 ≤ l v ∧ l v ≤ (nxt l v : Int)
theorem Canon.unique {n : Nat} {l k : Nat → Int} {E : Nat → Nat → Prop} {Z : Nat → Prop} (h : Canon n l E Z) (h2 : Canon n k E Z) : ∀ v, v < n → l v = k v := by
  intro v
  induction v using Nat.strongRecOn with
  | ind v ih =>
    intro hv
    by_cases hz : Z v
    · rw [(h.none v hv).2 hz, (h2.none v hv).2 hz]
    · by_cases he : ∃ u, u < v ∧ E v u
      · obtain ⟨u, hu, he⟩ := he
        rw [(h.same v u hv (by omega)).2 he, (h2.same v u hv (by omega)).2 he]
        exact ih u hu (by omega)
      · have key : ∀ {m : Nat → Int}, Canon n m E Z → m v = (nxt m v : Int) := fun {m} hm => by
          have h3 := hm.le v hv
          have h4 : m v ≠ -1 := fun e => hz ((hm.none v hv).1 e)
          apply Classical.byContradiction
          intro hne
          obtain ⟨u, hu, e⟩ := nxt_at (l := m) v (m v).toNat (by omega)
          exact he ⟨u, hu, (hm.same v u hv (by omega)).1 (by omega)⟩
        rw [key h, key h2, nxt_congr fun u hu => ih u hu (by omega)]
end Go.Proofs.Ytjggjhgbobmkhaa

/- Maps whose keys are numbers: sets, and numbers by numbers; the walk's steps on them. -/
namespace Go.Proofs.Ytjggjhgbobmkhaa
open Go.RowKit
set_option linter.unusedVariables false
set_option linter.unusedSimpArgs false
def inI (x : Int) : Prop := -9223372036854775808 ≤ x ∧ x ≤ 9223372036854775807
theorem wf_inI {x : Int} (h : inI x) : (Lit.int .i64 x).wf = true := by
  unfold Lit.wf
  simp only [Bool.and_eq_true, decide_eq_true_eq]
  exact h
theorem isKey_int (x : Int) : WideAt.IsKeyLit (.int .i64 x) := by simp [WideAt.IsKeyLit]
/-- What a key's type is, and an element's: k a number's, e a truth's. -/
structure SetT (P : Program) (t k e : TypeId) : Prop where
  t : P.underlying t = some (.map k e)
  k : P.underlying k = some (.int .i64)
  e : P.underlying e = some .bool
structure NumT (P : Program) (t k e : TypeId) : Prop where
  t : P.underlying t = some (.map k e)
  k : P.underlying k = some (.int .i64)
  e : P.underlying e = some (.int .i64)
section
variable {P : Program} {t k e : TypeId} {w w1 : World} {b n : Nat} {L : List Int}
/-- Block b is a set of numbers: those of L, each once. -/
structure SetM (P : Program) (k e : TypeId) (w : World) (b : Nat) (L : List Int) (n : Nat) : Prop where
  ex : ∃ D : DataW Unit, w.ownsMap P k (plainElem P e) b n D ∧ (∀ l, Maps.has D l = true ↔ ∃ x ∈ L, l = Lit.int .i64 x) ∧ Maps.size D = L.length
  nd : L.Nodup
theorem SetM.lt (h : SetM P k e w b L n) : b < w.heap.size := by
  obtain ⟨D, h1, _⟩ := h.ex
  exact h1.lt
theorem SetM.kept {row : Option Nat} (h : SetM P k e w b L n) (hg : w.grownBy w1 row) (hne : some b ≠ row) : SetM P k e w1 b L n := by
  obtain ⟨D, h1, h2⟩ := h.ex
  exact ⟨⟨D, h1.kept hg hne, h2⟩, h.nd⟩
theorem SetM.up (h : SetM P k e w b L n) (hb : Below w.heap.size w w1) : SetM P k e w1 b L n := h.kept (row := none) (grown_of hb) nofun
theorem SetM.made (hb : w1 = w.alloc (.map #[] 0)) : SetM P k e w1 w.heap.size [] 0 := by
  subst hb
  refine ⟨⟨.map [], World.ownsMap_made w P k _, fun l => ⟨fun h => (by cases h), fun ⟨x, hx, _⟩ => (by cases hx)⟩, rfl⟩, .nil⟩
def addI (L : List Int) (x : Int) : List Int := if x ∈ L then L else L ++ [x]
theorem addI_mem {L : List Int} {x y : Int} : y ∈ addI L x ↔ y ∈ L ∨ y = x := by
  unfold addI
  split
  · rename_i h
    exact ⟨.inl, fun h2 => h2.elim id fun e => e ▸ h⟩
  · simp
theorem SetM.put (hT : SetT P t k e) (h : SetM P k e w b L n) (hn : n < maxLen) {x : Int} (hx : inI x) :
    ∃ w', (Instr.mapUpdate t (.map (some b)) (.int .i64 x) (.bool true)).run P w = .ok () w' ∧ SetM P k e w' b (addI L x) (n + 1) ∧ w.grownBy w' (some b) := by
  obtain ⟨D, h1, h2, h3⟩ := h.ex
  have K := Maps.int_keyed (P := P) hT.k
  obtain ⟨w', hr, h4, h5⟩ := h1.update K hT.t hn (Maps.keyOf_int_mk hT.k (wf_inI hx)) (plainElem_bool hT.e true)
  refine ⟨w', hr, ⟨⟨_, h4, fun l => ?_, ?_⟩, ?_⟩, h5⟩
  · by_cases e1 : l = .int .i64 x
    · subst e1
      rw [Maps.has_put_same (h1.isMap) (isKey_int x)]
      exact ⟨fun _ => ⟨x, addI_mem.2 (.inr rfl), rfl⟩, fun _ => rfl⟩
    · rw [Maps.has_put_other e1, h2]
      constructor
      · rintro ⟨y, hy, rfl⟩
        exact ⟨y, addI_mem.2 (.inl hy), rfl⟩
      · rintro ⟨y, hy, rfl⟩
        rcases addI_mem.1 hy with hy | rfl
        · exact ⟨y, hy, rfl⟩
        · exact absurd rfl e1
  · rw [Maps.size_put (h1.tidy K)]
    have hm : Maps.has D (.int .i64 x) = true ↔ x ∈ L := by
      rw [h2]
      exact ⟨fun ⟨y, hy, e⟩ => by injection e with _ e; exact e ▸ hy, fun hx => ⟨x, hx, rfl⟩⟩
    unfold addI
    by_cases hxL : x ∈ L
    · rw [if_pos (hm.2 hxL), if_pos hxL, h3]
    · rw [if_neg (fun hh => hxL (hm.1 hh)), if_neg hxL, h3]
      simp
  · unfold addI
    split
    · exact h.nd
    · rename_i hxL
      rw [List.nodup_append]
      exact ⟨h.nd, by simp, fun a ha c hc e => by simp at hc; subst hc; exact hxL (e ▸ ha)⟩
theorem SetM.len (hT : SetT P t k e) (h : SetM P k e w b L n) (ty : TypeId) : (Builtin.len_ #[t] ty #[.map (some b)]).run P w = .ok (.int .i64 (L.length : Int)) w := by
  obtain ⟨D, h1, h2, h3⟩ := h.ex
  rw [h1.len hT.t ty, h3]
/-- A set of one number: the round over it gives that. -/
theorem SetM.only {x : Int} (hT : SetT P t k e) (h : SetM P k e w b [x] n) :
    ∃ w1, (Instr.range t (.map (some b))).run P w = .ok (.pointer (some ⟨w.heap.size, 0, none⟩)) w1 ∧ Below w.heap.size w w1 ∧ ∀ ty,
      ∃ w2 v, (Instr.next (.pointer (some ⟨w.heap.size, 0, none⟩)) false ty).run P w1 = .ok (.tuple #[.bool true, .int .i64 x, v]) w2 ∧ Below w.heap.size w w2 ∧ (Instr.entry (.pointer (some ⟨w.heap.size, 0, none⟩))).run P w2 = .ok (.tuple #[.int .i64 x, v]) w2 := by
  obtain ⟨D, h1, h2, h3⟩ := h.ex
  have K := Maps.int_keyed (P := P) hT.k
  obtain ⟨w1, hr, h4, h5, h6⟩ := h1.range K hT.t
  have hB1 : Below w.heap.size w w1 := ⟨h5.os, h5.tape, h5.output, h5.size, fun j hj => h5.block j hj (by simp)⟩
  refine ⟨w1, hr, hB1, fun ty => ?_⟩
  rcases h4.next K ty with ⟨h0, _⟩ | ⟨key, v, kl, y, w2, cnt', hkey, hl, hv, hat, hrun, hrg, hlt, hgr, hsz, hen⟩
  · rw [h3] at h0
    cases h0
  · obtain ⟨x', hx', rfl⟩ := (h2 kl).1 hl
    simp only [List.mem_singleton] at hx'
    subst hx'
    obtain ⟨x2, rfl, e2, _⟩ := Maps.keyOf_int_inv hT.k hkey
    injection e2 with _ e2
    subst e2
    exact ⟨w2, v, hrun, hB1.grown hgr hB1.size (fun j hj => by injection hj with hj; omega), hen⟩
/-- Block b tells numbers by numbers: f. -/
structure NumM (P : Program) (k e : TypeId) (w : World) (b : Nat) (f : Int → Option Nat) (n : Nat) : Prop where
  ex : ∃ D : DataW Unit, w.ownsMap P k (plainElem P e) b n D ∧ (∀ l, Maps.has D l = true ↔ ∃ x, (f x).isSome = true ∧ l = Lit.int .i64 x) ∧ ∀ x m, f x = some m → ∀ z, D.atKey (.int .i64 x) z = .lit (.int .i64 (m : Int))
variable {f : Int → Option Nat}
theorem NumM.lt (h : NumM P k e w b f n) : b < w.heap.size := by
  obtain ⟨D, h1, _⟩ := h.ex
  exact h1.lt
theorem NumM.kept {row : Option Nat} (h : NumM P k e w b f n) (hg : w.grownBy w1 row) (hne : some b ≠ row) : NumM P k e w1 b f n := by
  obtain ⟨D, h1, h2⟩ := h.ex
  exact ⟨⟨D, h1.kept hg hne, h2⟩⟩
theorem NumM.up (h : NumM P k e w b f n) (hb : Below w.heap.size w w1) : NumM P k e w1 b f n := h.kept (row := none) (grown_of hb) nofun
theorem NumM.made (hb : w1 = w.alloc (.map #[] 0)) : NumM P k e w1 w.heap.size (fun _ => none) 0 := by
  subst hb
  exact ⟨⟨.map [], World.ownsMap_made w P k _, fun l => ⟨fun h => (by cases h), fun ⟨x, hx, _⟩ => (by cases hx)⟩, fun x m h => (by cases h)⟩⟩
def putN (f : Int → Option Nat) (x : Int) (m : Nat) : Int → Option Nat := fun y => if y = x then some m else f y
theorem NumM.put (hT : NumT P t k e) (h : NumM P k e w b f n) (hn : n < maxLen) {x : Int} {m : Nat} (hx : inI x) (hm : inI (m : Int)) :
    ∃ w', (Instr.mapUpdate t (.map (some b)) (.int .i64 x) (.int .i64 (m : Int))).run P w = .ok () w' ∧ NumM P k e w' b (putN f x m) (n + 1) ∧ w.grownBy w' (some b) := by
  obtain ⟨D, h1, h2, h3⟩ := h.ex
  have K := Maps.int_keyed (P := P) hT.k
  obtain ⟨w', hr, h4, h5⟩ := h1.update K hT.t hn (Maps.keyOf_int_mk hT.k (wf_inI hx)) (plainElem_int hT.e (wf_inI hm))
  refine ⟨w', hr, ⟨⟨_, h4, fun l => ?_, fun y m' hy z => ?_⟩⟩, h5⟩
  · by_cases e1 : l = .int .i64 x
    · subst e1
      rw [Maps.has_put_same (h1.isMap) (isKey_int x)]
      exact ⟨fun _ => ⟨x, by unfold putN; rw [if_pos rfl]; rfl, rfl⟩, fun _ => rfl⟩
    · rw [Maps.has_put_other e1, h2]
      constructor
      · rintro ⟨y, hy, rfl⟩
        exact ⟨y, by unfold putN; rw [if_neg (fun e2 => e1 (by rw [e2]))]; exact hy, rfl⟩
      · rintro ⟨y, hy, rfl⟩
        refine ⟨y, ?_, rfl⟩
        unfold putN at hy
        rwa [if_neg (fun e2 => e1 (by rw [e2]))] at hy
  · unfold putN at hy
    by_cases e1 : y = x
    · subst e1
      rw [if_pos rfl] at hy
      injection hy with hy
      subst hy
      exact Maps.atKey_put_same h1.isMap (isKey_int y) _ z
    · rw [if_neg e1] at hy
      rw [Maps.atKey_put_other (fun e2 => e1 (by injection e2)), h3 y m' hy]
theorem NumM.look (hT : NumT P t k e) (h : NumM P k e w b f n) (hz : (zeroValue e).run P w = .ok (.int .i64 0) w) {x : Int} (hx : inI x) :
    ∃ v : Int, (Instr.lookup t (.map (some b)) (.int .i64 x) true).run P w = .ok (.tuple #[.int .i64 v, .bool (f x).isSome]) w ∧ ∀ m, f x = some m → v = (m : Int) := by
  obtain ⟨D, h1, h2, h3⟩ := h.ex
  have K := Maps.int_keyed (P := P) hT.k
  obtain ⟨v, ps, hr, hv⟩ := h1.look_ok K hT.t hz (plainElem_int hT.e (by decide)) (Maps.keyOf_int_mk hT.k (wf_inI hx))
  obtain ⟨c, rfl, hc, _⟩ := plainElem_int_inv hT.e hv
  have hhas : Maps.has D (.int .i64 x) = (f x).isSome := by
    cases hf : (f x).isSome with
    | true => exact (h2 _).2 ⟨x, hf, rfl⟩
    | false =>
      cases hh : Maps.has D (.int .i64 x) with
      | false => rfl
      | true =>
        obtain ⟨y, hy, e1⟩ := (h2 _).1 hh
        injection e1 with _ e1
        subst e1
        rw [hf] at hy
        cases hy
  rw [hhas] at hr
  refine ⟨c, hr, fun m hm => ?_⟩
  have h4 := h3 x m hm (.lit (.int .i64 0))
  simp only [Prod.mk.injEq] at hc
  have h5 := hc.1.symm.trans h4
  injection h5 with h5
  injection h5
end
end Go.Proofs.Ytjggjhgbobmkhaa

/- The walk's steps on maps of numbers. -/
namespace Go.Proofs.Ytjggjhgbobmkhaa
open Go.RowKit
set_option linter.unusedVariables false
set_option linter.unusedSimpArgs false
section
variable {P : Program} {T : Nat → Option TI} {n : Nat} {Q : Post} {F : Fm} {w : World} {ops : Array Oper} {rest : List Oper} {o : Oper}
theorem wl_mkM {t : TypeId} (hop : o.op = .makeMap t none) (hg : o.guard = none) {d : Nat} (hd : o.dst = some d) (hn : Nat.blt d n = true) (k : ∀ b w1, b = w.heap.size → w1 = w.alloc (.map #[] 0) → Below w.heap.size w w1 → wl P n ops rest Q (upd F d (.map (some b))) w1) : wl P n ops (o :: rest) Q F w := by
  refine wl_val hg hd hn ?_ (k _ _ rfl rfl ?_)
  · simp [execOp, hop, run_makeMap]
  · have h := World.grownBy_alloc w (.map #[] 0) none
    exact ⟨h.os, h.tape, h.output, h.size, fun j hj => h.block j hj (by simp)⟩
theorem wl_mu {t : TypeId} {m x y : Operand} {b : Nat} {key val : Value} {R : World → Prop} (h : ∃ w', (Instr.mapUpdate t (.map (some b)) key val).run P w = .ok () w' ∧ R w') (hop : o.op = .mapUpdate t m x y) (hm : ev F m = .map (some b)) (hx : ev F x = key) (hy : ev F y = val) (hg : o.guard = none) (hd : o.dst = none)
    (k : ∀ w', R w' → wl P n ops rest Q F w') : wl P n ops (o :: rest) Q F w := by
  obtain ⟨w', hr, hR⟩ := h
  refine wl_skp hg hd ?_ (k w' hR)
  simp [execOp, hop, hm, hx, hy, hr]
theorem wl_lenM {t : TypeId} {c : Call} {x : Operand} {b : Nat} {v : Value} (h : ∀ ty, (Builtin.len_ #[t] ty #[.map (some b)]).run P w = .ok v w) (hop : o.op = .call c) (hcal : c.callee = .builtin .len) (hargs : c.args.toList = [x]) (htys : c.argTypes.toList = [t]) (hx : ev F x = .map (some b)) (hg : o.guard = none) {d : Nat} (hd : o.dst = some d) (hn : Nat.blt d n = true)
    (k : wl P n ops rest Q (upd F d v) w) : wl P n ops (o :: rest) Q F w := by
  refine wl_val hg hd hn ?_ k
  obtain ⟨callee, ⟨args⟩, ⟨tys⟩⟩ := c
  simp only at hcal hargs htys
  subst hcal hargs htys
  simp [execOp, hop, resolve, invoke, builtin, hx, h]
theorem wl_lkM {t : TypeId} {m x : Operand} {b : Nat} {key v : Value} (h : (Instr.lookup t (.map (some b)) key true).run P w = .ok v w) (hop : o.op = .lookup t m x true) (hm : ev F m = .map (some b)) (hx : ev F x = key) (hg : o.guard = none) {d : Nat} (hd : o.dst = some d) (hn : Nat.blt d n = true)
    (k : wl P n ops rest Q (upd F d v) w) : wl P n ops (o :: rest) Q F w := by
  refine wl_val hg hd hn ?_ k
  simp [execOp, hop, hm, hx, h]
theorem wl_rngM {t : TypeId} {m : Operand} {b : Nat} {v : Value} {w1 : World} (h : (Instr.range t (.map (some b))).run P w = .ok v w1) (hop : o.op = .range t m) (hm : ev F m = .map (some b)) (hg : o.guard = none) {d : Nat} (hd : o.dst = some d) (hn : Nat.blt d n = true)
    (k : wl P n ops rest Q (upd F d v) w1) : wl P n ops (o :: rest) Q F w := by
  refine wl_val hg hd hn ?_ k
  simp [execOp, hop, hm, h]
theorem wl_nxM {it : Operand} {a v : Value} {w1 : World} (h : (Instr.next a false o.type).run P w = .ok v w1) (hop : o.op = .next it false) (hm : ev F it = a) (hg : o.guard = none) {d : Nat} (hd : o.dst = some d) (hn : Nat.blt d n = true)
    (k : wl P n ops rest Q (upd F d v) w1) : wl P n ops (o :: rest) Q F w := by
  refine wl_val hg hd hn ?_ k
  simp [execOp, hop, hm, h]
theorem wl_enM {it : Operand} {a v : Value} (h : (Instr.entry a).run P w = .ok v w) (hop : o.op = .entry it) (hm : ev F it = a) (hg : o.guard = none) {d : Nat} (hd : o.dst = some d) (hn : Nat.blt d n = true)
    (k : wl P n ops rest Q (upd F d v) w) : wl P n ops (o :: rest) Q F w := by
  refine wl_val hg hd hn ?_ k
  simp [execOp, hop, hm, h]
end
/-- A loop by itself: what follows it is walked behind it. -/
theorem wc_ends {P : Program} {n : Nat} {Q : Post} {F : Fm} {w : World} {X : Type} (id : Nat) (rr : Fm → World → Prop) (S : X → List (Nat × Value)) (R : X → World → Prop) {c : Code} (h : wc P n c ⟨fun _ _ => False, rr, fun i F' w' => i = id ∧ ∃ x, holds F' (S x) ∧ R x w'⟩ F w) (hr : ∀ F w, rr F w → Q.r F w) (k : ∀ x G w, R x w → Q.x id (upds G (S x)) w) : wc P n c Q F w :=
  wc_mono h (fun _ _ h => h.elim) hr (fun i F' w' h => by
    obtain ⟨rfl, x, h1, h2⟩ := h
    have := k x F' w' h2
    rwa [upds_of_holds h1] at this)
theorem setTy : SetT Try.prog 85 3 4 := ⟨Try.underlying85, Try.underlying3, Try.underlying4⟩
theorem numTy : NumT Try.prog 84 3 3 := ⟨Try.underlying84, Try.underlying3, Try.underlying3⟩
abbrev ISet := SetM Try.prog 3 4
abbrev INum := NumM Try.prog 3 3
theorem zeroI (w : World) : (zeroValue 3).run Try.prog w = .ok (.int .i64 0) w := by kernel_rfl
end Go.Proofs.Ytjggjhgbobmkhaa

/- pile: find, list, Has, Len; math/bits.OnesCount64, TrailingZeros64. -/
namespace Go.Proofs.Ytjggjhgbobmkhaa
open Go.RowKit
set_option linter.unusedVariables false
set_option linter.unusedSimpArgs false
set_option maxRecDepth 100000
theorem pCmp (a : Int) (w0 : Nat) (t : Int) (ha : 0 ≤ a ∧ a < 144115188075855872) (ht : 0 ≤ t ∧ t < 144115188075855872) (w : World) :
    Calls Try.prog 55 #[.agg #[.int .i64 a, .int .u64 (w0 : Int)], .int .i64 t] w fun e w' => e = .returned (.int .i64 (a - t)) ∧ Below w.heap.size w w' := by
  refine enterR (args := [.agg #[.int .i64 a, .int .u64 (w0 : Int)], .int .i64 t]) tabOk Try.func55 rfl Try.ntmps55 rfl ?_; conv => whnf
  refine wl_box rfl rfl rfl rfl rfl rfl ?_
  intro g1 w1 hn1
  have hb := hn1.blk
  refine run_l tabOk ?_
  conv => whnf
  (repeat' (first | (refine wl_Lg tabOk hb rfl rfl rfl rfl rfl rfl rfl (run_l tabOk ?_); conv => whnf) | (refine wl_add rfl rfl rfl rfl rfl rfl (by omega) (by omega) (run_l tabOk ?_); conv => whnf) | (refine wl_sub rfl rfl rfl rfl rfl rfl (by omega) (by omega) (run_l tabOk ?_); conv => whnf) | (refine wl_cvA tabOk rfl rfl rfl (by simp only [inK]; omega) rfl rfl rfl (run_l tabOk ?_); conv => whnf) | (refine wl_cvB tabOk rfl rfl rfl rfl rfl rfl (run_l tabOk ?_); conv => whnf) | (refine wl_rem rfl rfl rfl rfl rfl rfl (by omega) (by omega) (fun r hr hr0 hr1 hr2 => run_l tabOk ?_); conv => whnf) | (refine wl_quo rfl rfl rfl rfl rfl rfl (by omega) (by omega) (by simp only [inK]; omega) (run_l tabOk ?_); conv => whnf) | (refine wl_mul rfl rfl rfl rfl rfl rfl (by omega) (by omega) (run_l tabOk ?_); conv => whnf) | (refine gs_dt (by first | assumption | omega) ?_; conv => whnf) | (refine gs_df (by first | assumption | omega) ?_; conv => whnf) | (refine gs_t (by assumption) ?_; conv => whnf) | (refine gs_f (by assumption) ?_; conv => whnf) | (refine gs_d (fun hg => ?_) (fun hg => ?_) <;> conv => whnf) | (refine gs_n (fun hg => ?_) (fun hg => ?_) <;> conv => whnf) | (refine gs_nb (fun hg => ?_) (fun hg => ?_) <;> conv => whnf) | (refine gs_b (fun hg => ?_) (fun hg => ?_) <;> conv => whnf) | refine fin1 rfl rfl ?_))
  exact ⟨rfl, hn1.below⟩
def fndB (bs : List Blk) (t : Int) (i : Nat) (ok : Bool) : Prop := i ≤ bs.length ∧ (∀ j, j < i → bs[j]!.a < t) ∧ (∀ j, i ≤ j → j < bs.length → t ≤ bs[j]!.a) ∧ ok = (decide (i < bs.length) && decide (bs[i]!.a = t))
set_option maxHeartbeats 4000000 in
theorem pSearch (bs : List Blk) (A : Option Addr) (c : Nat) (t : Int) (hr : ∀ b ∈ bs, 0 ≤ b.a ∧ b.a < 144115188075855872) (hs : ∀ i j, i < j → j < bs.length → bs[i]!.a < bs[j]!.a) (ht : 0 ≤ t ∧ t < 144115188075855872) (hl : bs.length ≤ 4611686018427387904) (w : World) (h : RowR 2 dBlk w A bs) :
    Calls Try.prog 54 #[.slice A bs.length c, .int .i64 t, .func (.func 55) #[] #[]] w fun e w' => ∃ (i : Nat) (ok : Bool), e = .returned (.tuple #[.int .i64 i, .bool ok]) ∧ fndB bs t i ok ∧ Below w.heap.size w w' := by
  refine enterR (args := [.slice A bs.length c, .int .i64 t, .func (.func 55) #[] #[]]) tabOk Try.func54 rfl Try.ntmps54 rfl ?_; conv => whnf
  (repeat' (first | (refine wl_add rfl rfl rfl rfl rfl rfl (by omega) (by omega) (run_l tabOk ?_); conv => whnf) | (refine wl_sub rfl rfl rfl rfl rfl rfl (by omega) (by omega) (run_l tabOk ?_); conv => whnf) | (refine wl_cvA tabOk rfl rfl rfl (by simp only [inK]; omega) rfl rfl rfl (run_l tabOk ?_); conv => whnf) | (refine wl_cvB tabOk rfl rfl rfl rfl rfl rfl (run_l tabOk ?_); conv => whnf) | (refine wl_rem rfl rfl rfl rfl rfl rfl (by omega) (by omega) (fun r hr hr0 hr1 hr2 => run_l tabOk ?_); conv => whnf) | (refine wl_quo rfl rfl rfl rfl rfl rfl (by omega) (by omega) (by simp only [inK]; omega) (run_l tabOk ?_); conv => whnf) | (refine wl_mul rfl rfl rfl rfl rfl rfl (by omega) (by omega) (run_l tabOk ?_); conv => whnf) | (refine gs_dt (by first | assumption | omega) ?_; conv => whnf) | (refine gs_df (by first | assumption | omega) ?_; conv => whnf) | (refine gs_t (by assumption) ?_; conv => whnf) | (refine gs_f (by assumption) ?_; conv => whnf) | (refine gs_d (fun hg => ?_) (fun hg => ?_) <;> conv => whnf) | (refine gs_n (fun hg => ?_) (fun hg => ?_) <;> conv => whnf) | (refine gs_nb (fun hg => ?_) (fun hg => ?_) <;> conv => whnf) | (refine gs_b (fun hg => ?_) (fun hg => ?_) <;> conv => whnf) | refine fin1 rfl rfl ?_))
  refine lp_loop tabOk (X := Nat × Nat) (fun x => [(0, .slice A bs.length c), (1, .int .i64 t), (2, .func (.func 55) #[] #[]), (8, .int .i64 bs.length), (9, .int .i64 x.1), (10, .int .i64 x.2)])
    (fun x wr => x.1 ≤ x.2 ∧ x.2 ≤ bs.length ∧ (∀ j, j < x.1 → bs[j]!.a < t) ∧ (∀ j, x.2 ≤ j → j < bs.length → t ≤ bs[j]!.a) ∧ Below w.heap.size w wr) (fun x => x.2 - x.1) (0, bs.length) ⟨rfl, rfl, rfl, rfl, rfl, rfl, trivial⟩ ⟨by omega, by omega, by omega, by omega, Below.refl _ _⟩ ?_
  intro ⟨lo, hi⟩ G wr ⟨h1, h2, h3, h4, hB⟩
  simp only at h1 h2 h3 h4
  dsimp only
  conv => whnf
  have hlo : bs.length ≤ bs.length := Nat.le_refl _
  have hr' := h.up stays_Blk hB
  by_cases hlt : lo < hi
  · obtain ⟨m, hm⟩ : ∃ m, m = (lo + hi) / 2 := ⟨_, rfl⟩
    have hmm : (lo : Int) + (hi : Int) = ((lo + hi : Nat) : Int) := by omega
    (repeat' (first | (refine wl_add rfl rfl rfl rfl rfl rfl (by omega) (by omega) (run_l tabOk ?_); conv => whnf) | (refine wl_sub rfl rfl rfl rfl rfl rfl (by omega) (by omega) (run_l tabOk ?_); conv => whnf) | (refine wl_cvA tabOk rfl rfl rfl (by simp only [inK]; omega) rfl rfl rfl (run_l tabOk ?_); conv => whnf) | (refine wl_cvB tabOk rfl rfl rfl rfl rfl rfl (run_l tabOk ?_); conv => whnf) | (refine wl_rem rfl rfl rfl rfl rfl rfl (by omega) (by omega) (fun r hr hr0 hr1 hr2 => run_l tabOk ?_); conv => whnf) | (refine wl_quo rfl rfl rfl rfl rfl rfl (by omega) (by omega) (by simp only [inK]; omega) (run_l tabOk ?_); conv => whnf) | (refine wl_mul rfl rfl rfl rfl rfl rfl (by omega) (by omega) (run_l tabOk ?_); conv => whnf) | (refine gs_dt (by first | assumption | omega) ?_; conv => whnf) | (refine gs_df (by first | assumption | omega) ?_; conv => whnf) | (refine gs_t (by assumption) ?_; conv => whnf) | (refine gs_f (by assumption) ?_; conv => whnf) | (refine gs_d (fun hg => ?_) (fun hg => ?_) <;> conv => whnf) | (refine gs_n (fun hg => ?_) (fun hg => ?_) <;> conv => whnf) | (refine gs_nb (fun hg => ?_) (fun hg => ?_) <;> conv => whnf) | (refine gs_b (fun hg => ?_) (fun hg => ?_) <;> conv => whnf) | refine fin1 rfl rfl ?_))
    refine wl_shr (r := ((m : Nat) : Int)) (by simp [IntKind.bits]; omega) rfl rfl rfl (by omega) rfl rfl rfl ?_
    refine run_l tabOk ?_
    conv => whnf
    obtain ⟨ad, rfl, hc⟩ := rowB_at hr' m (by omega)
    have hb := hr _ (mem_getB (bs := bs) (i := m) (by omega))
    (repeat' (first | (refine wl_Xn tabOk 82 2 rfl rfl rfl rfl rfl rfl rfl (by omega) (run_l tabOk ?_); conv => whnf) | (refine wl_La tabOk hc rfl rfl rfl rfl rfl rfl (run_l tabOk ?_); conv => whnf) | (refine wl_add rfl rfl rfl rfl rfl rfl (by omega) (by omega) (run_l tabOk ?_); conv => whnf) | (refine wl_sub rfl rfl rfl rfl rfl rfl (by omega) (by omega) (run_l tabOk ?_); conv => whnf) | (refine wl_cvA tabOk rfl rfl rfl (by simp only [inK]; omega) rfl rfl rfl (run_l tabOk ?_); conv => whnf) | (refine wl_cvB tabOk rfl rfl rfl rfl rfl rfl (run_l tabOk ?_); conv => whnf) | (refine wl_rem rfl rfl rfl rfl rfl rfl (by omega) (by omega) (fun r hr hr0 hr1 hr2 => run_l tabOk ?_); conv => whnf) | (refine wl_quo rfl rfl rfl rfl rfl rfl (by omega) (by omega) (by simp only [inK]; omega) (run_l tabOk ?_); conv => whnf) | (refine wl_mul rfl rfl rfl rfl rfl rfl (by omega) (by omega) (run_l tabOk ?_); conv => whnf) | (refine gs_dt (by first | assumption | omega) ?_; conv => whnf) | (refine gs_df (by first | assumption | omega) ?_; conv => whnf) | (refine gs_t (by assumption) ?_; conv => whnf) | (refine gs_f (by assumption) ?_; conv => whnf) | (refine gs_d (fun hg => ?_) (fun hg => ?_) <;> conv => whnf) | (refine gs_n (fun hg => ?_) (fun hg => ?_) <;> conv => whnf) | (refine gs_nb (fun hg => ?_) (fun hg => ?_) <;> conv => whnf) | (refine gs_b (fun hg => ?_) (fun hg => ?_) <;> conv => whnf) | refine fin1 rfl rfl ?_))
    refine wl_C fn55 (pCmp bs[m]!.a bs[m]!.w t hb ht wr) rfl rfl rfl rfl rfl rfl rfl ?_
    rintro _ w2 ⟨rfl, hB2⟩
    refine ⟨_, rfl, run_l tabOk ?_⟩
    conv => whnf
    by_cases hlt2 : bs[m]!.a < t
    · (repeat' (first | (refine wl_add rfl rfl rfl rfl rfl rfl (by omega) (by omega) (run_l tabOk ?_); conv => whnf) | (refine wl_sub rfl rfl rfl rfl rfl rfl (by omega) (by omega) (run_l tabOk ?_); conv => whnf) | (refine wl_cvA tabOk rfl rfl rfl (by simp only [inK]; omega) rfl rfl rfl (run_l tabOk ?_); conv => whnf) | (refine wl_cvB tabOk rfl rfl rfl rfl rfl rfl (run_l tabOk ?_); conv => whnf) | (refine wl_rem rfl rfl rfl rfl rfl rfl (by omega) (by omega) (fun r hr hr0 hr1 hr2 => run_l tabOk ?_); conv => whnf) | (refine wl_quo rfl rfl rfl rfl rfl rfl (by omega) (by omega) (by simp only [inK]; omega) (run_l tabOk ?_); conv => whnf) | (refine wl_mul rfl rfl rfl rfl rfl rfl (by omega) (by omega) (run_l tabOk ?_); conv => whnf) | (refine gs_dt (by first | assumption | omega) ?_; conv => whnf) | (refine gs_df (by first | assumption | omega) ?_; conv => whnf) | (refine gs_t (by assumption) ?_; conv => whnf) | (refine gs_f (by assumption) ?_; conv => whnf) | (refine gs_d (fun hg => ?_) (fun hg => ?_) <;> conv => whnf) | (refine gs_n (fun hg => ?_) (fun hg => ?_) <;> conv => whnf) | (refine gs_nb (fun hg => ?_) (fun hg => ?_) <;> conv => whnf) | (refine gs_b (fun hg => ?_) (fun hg => ?_) <;> conv => whnf) | refine fin1 rfl rfl ?_))
      refine ⟨(m + 1, hi), ⟨rfl, rfl, rfl, rfl, rfl, rfl, trivial⟩, ⟨by simp only; omega, h2, fun j hj => ?_, h4, bup hB hB2⟩, by simp only; omega⟩
      simp only at hj
      rcases Nat.lt_or_ge j m with h5 | h5
      · have := hs j m h5 (by omega); omega
      · have : j = m := by omega
        subst this; exact hlt2
    · (repeat' (first | (refine wl_add rfl rfl rfl rfl rfl rfl (by omega) (by omega) (run_l tabOk ?_); conv => whnf) | (refine wl_sub rfl rfl rfl rfl rfl rfl (by omega) (by omega) (run_l tabOk ?_); conv => whnf) | (refine wl_cvA tabOk rfl rfl rfl (by simp only [inK]; omega) rfl rfl rfl (run_l tabOk ?_); conv => whnf) | (refine wl_cvB tabOk rfl rfl rfl rfl rfl rfl (run_l tabOk ?_); conv => whnf) | (refine wl_rem rfl rfl rfl rfl rfl rfl (by omega) (by omega) (fun r hr hr0 hr1 hr2 => run_l tabOk ?_); conv => whnf) | (refine wl_quo rfl rfl rfl rfl rfl rfl (by omega) (by omega) (by simp only [inK]; omega) (run_l tabOk ?_); conv => whnf) | (refine wl_mul rfl rfl rfl rfl rfl rfl (by omega) (by omega) (run_l tabOk ?_); conv => whnf) | (refine gs_dt (by first | assumption | omega) ?_; conv => whnf) | (refine gs_df (by first | assumption | omega) ?_; conv => whnf) | (refine gs_t (by assumption) ?_; conv => whnf) | (refine gs_f (by assumption) ?_; conv => whnf) | (refine gs_d (fun hg => ?_) (fun hg => ?_) <;> conv => whnf) | (refine gs_n (fun hg => ?_) (fun hg => ?_) <;> conv => whnf) | (refine gs_nb (fun hg => ?_) (fun hg => ?_) <;> conv => whnf) | (refine gs_b (fun hg => ?_) (fun hg => ?_) <;> conv => whnf) | refine fin1 rfl rfl ?_))
      refine ⟨(lo, m), ⟨rfl, rfl, rfl, rfl, rfl, rfl, trivial⟩, ⟨by simp only; omega, by simp only; omega, h3, fun j hj hj2 => ?_, bup hB hB2⟩, by simp only; omega⟩
      simp only at hj
      rcases Nat.lt_or_ge m j with h5 | h5
      · have := hs m j h5 hj2; omega
      · have : j = m := by omega
        subst this; omega
  · have e : lo = hi := by omega
    subst e
    by_cases hl2 : lo < bs.length
    · obtain ⟨ad, rfl, hc⟩ := rowB_at hr' lo hl2
      have hb := hr _ (mem_getB (bs := bs) (i := lo) hl2)
      (repeat' (first | (refine wl_Xn tabOk 82 2 rfl rfl rfl rfl rfl rfl rfl (by omega) (run_l tabOk ?_); conv => whnf) | (refine wl_La tabOk hc rfl rfl rfl rfl rfl rfl (run_l tabOk ?_); conv => whnf) | (refine wl_add rfl rfl rfl rfl rfl rfl (by omega) (by omega) (run_l tabOk ?_); conv => whnf) | (refine wl_sub rfl rfl rfl rfl rfl rfl (by omega) (by omega) (run_l tabOk ?_); conv => whnf) | (refine wl_cvA tabOk rfl rfl rfl (by simp only [inK]; omega) rfl rfl rfl (run_l tabOk ?_); conv => whnf) | (refine wl_cvB tabOk rfl rfl rfl rfl rfl rfl (run_l tabOk ?_); conv => whnf) | (refine wl_rem rfl rfl rfl rfl rfl rfl (by omega) (by omega) (fun r hr hr0 hr1 hr2 => run_l tabOk ?_); conv => whnf) | (refine wl_quo rfl rfl rfl rfl rfl rfl (by omega) (by omega) (by simp only [inK]; omega) (run_l tabOk ?_); conv => whnf) | (refine wl_mul rfl rfl rfl rfl rfl rfl (by omega) (by omega) (run_l tabOk ?_); conv => whnf) | (refine gs_dt (by first | assumption | omega) ?_; conv => whnf) | (refine gs_df (by first | assumption | omega) ?_; conv => whnf) | (refine gs_t (by assumption) ?_; conv => whnf) | (refine gs_f (by assumption) ?_; conv => whnf) | (refine gs_d (fun hg => ?_) (fun hg => ?_) <;> conv => whnf) | (refine gs_n (fun hg => ?_) (fun hg => ?_) <;> conv => whnf) | (refine gs_nb (fun hg => ?_) (fun hg => ?_) <;> conv => whnf) | (refine gs_b (fun hg => ?_) (fun hg => ?_) <;> conv => whnf) | refine fin1 rfl rfl ?_))
      refine wl_C fn55 (pCmp bs[lo]!.a bs[lo]!.w t hb ht wr) rfl rfl rfl rfl rfl rfl rfl ?_
      rintro _ w2 ⟨rfl, hB2⟩
      refine ⟨_, rfl, run_l tabOk ?_⟩
      conv => whnf
      by_cases he : bs[lo]!.a = t
      · (repeat' (first | (refine wl_add rfl rfl rfl rfl rfl rfl (by omega) (by omega) (run_l tabOk ?_); conv => whnf) | (refine wl_sub rfl rfl rfl rfl rfl rfl (by omega) (by omega) (run_l tabOk ?_); conv => whnf) | (refine wl_cvA tabOk rfl rfl rfl (by simp only [inK]; omega) rfl rfl rfl (run_l tabOk ?_); conv => whnf) | (refine wl_cvB tabOk rfl rfl rfl rfl rfl rfl (run_l tabOk ?_); conv => whnf) | (refine wl_rem rfl rfl rfl rfl rfl rfl (by omega) (by omega) (fun r hr hr0 hr1 hr2 => run_l tabOk ?_); conv => whnf) | (refine wl_quo rfl rfl rfl rfl rfl rfl (by omega) (by omega) (by simp only [inK]; omega) (run_l tabOk ?_); conv => whnf) | (refine wl_mul rfl rfl rfl rfl rfl rfl (by omega) (by omega) (run_l tabOk ?_); conv => whnf) | (refine gs_dt (by first | assumption | omega) ?_; conv => whnf) | (refine gs_df (by first | assumption | omega) ?_; conv => whnf) | (refine gs_t (by assumption) ?_; conv => whnf) | (refine gs_f (by assumption) ?_; conv => whnf) | (refine gs_d (fun hg => ?_) (fun hg => ?_) <;> conv => whnf) | (refine gs_n (fun hg => ?_) (fun hg => ?_) <;> conv => whnf) | (refine gs_nb (fun hg => ?_) (fun hg => ?_) <;> conv => whnf) | (refine gs_b (fun hg => ?_) (fun hg => ?_) <;> conv => whnf) | refine fin1 rfl rfl ?_))
        refine fin2 rfl rfl rfl ⟨lo, true, ?_, ⟨h2, h3, h4, ?_⟩, bup hB hB2⟩
        · rw [decide_eq_true (by omega : bs[lo]!.a - t = 0)]
        · rw [decide_eq_true hl2, decide_eq_true he]; rfl
      · (repeat' (first | (refine wl_add rfl rfl rfl rfl rfl rfl (by omega) (by omega) (run_l tabOk ?_); conv => whnf) | (refine wl_sub rfl rfl rfl rfl rfl rfl (by omega) (by omega) (run_l tabOk ?_); conv => whnf) | (refine wl_cvA tabOk rfl rfl rfl (by simp only [inK]; omega) rfl rfl rfl (run_l tabOk ?_); conv => whnf) | (refine wl_cvB tabOk rfl rfl rfl rfl rfl rfl (run_l tabOk ?_); conv => whnf) | (refine wl_rem rfl rfl rfl rfl rfl rfl (by omega) (by omega) (fun r hr hr0 hr1 hr2 => run_l tabOk ?_); conv => whnf) | (refine wl_quo rfl rfl rfl rfl rfl rfl (by omega) (by omega) (by simp only [inK]; omega) (run_l tabOk ?_); conv => whnf) | (refine wl_mul rfl rfl rfl rfl rfl rfl (by omega) (by omega) (run_l tabOk ?_); conv => whnf) | (refine gs_dt (by first | assumption | omega) ?_; conv => whnf) | (refine gs_df (by first | assumption | omega) ?_; conv => whnf) | (refine gs_t (by assumption) ?_; conv => whnf) | (refine gs_f (by assumption) ?_; conv => whnf) | (refine gs_d (fun hg => ?_) (fun hg => ?_) <;> conv => whnf) | (refine gs_n (fun hg => ?_) (fun hg => ?_) <;> conv => whnf) | (refine gs_nb (fun hg => ?_) (fun hg => ?_) <;> conv => whnf) | (refine gs_b (fun hg => ?_) (fun hg => ?_) <;> conv => whnf) | refine fin1 rfl rfl ?_))
        refine fin2 rfl rfl rfl ⟨lo, false, ?_, ⟨h2, h3, h4, ?_⟩, bup hB hB2⟩
        · rw [decide_eq_false (by omega : ¬ bs[lo]!.a - t = 0)]
        · rw [decide_eq_true hl2, decide_eq_false he]; rfl
    · (repeat' (first | (refine wl_add rfl rfl rfl rfl rfl rfl (by omega) (by omega) (run_l tabOk ?_); conv => whnf) | (refine wl_sub rfl rfl rfl rfl rfl rfl (by omega) (by omega) (run_l tabOk ?_); conv => whnf) | (refine wl_cvA tabOk rfl rfl rfl (by simp only [inK]; omega) rfl rfl rfl (run_l tabOk ?_); conv => whnf) | (refine wl_cvB tabOk rfl rfl rfl rfl rfl rfl (run_l tabOk ?_); conv => whnf) | (refine wl_rem rfl rfl rfl rfl rfl rfl (by omega) (by omega) (fun r hr hr0 hr1 hr2 => run_l tabOk ?_); conv => whnf) | (refine wl_quo rfl rfl rfl rfl rfl rfl (by omega) (by omega) (by simp only [inK]; omega) (run_l tabOk ?_); conv => whnf) | (refine wl_mul rfl rfl rfl rfl rfl rfl (by omega) (by omega) (run_l tabOk ?_); conv => whnf) | (refine gs_dt (by first | assumption | omega) ?_; conv => whnf) | (refine gs_df (by first | assumption | omega) ?_; conv => whnf) | (refine gs_t (by assumption) ?_; conv => whnf) | (refine gs_f (by assumption) ?_; conv => whnf) | (refine gs_d (fun hg => ?_) (fun hg => ?_) <;> conv => whnf) | (refine gs_n (fun hg => ?_) (fun hg => ?_) <;> conv => whnf) | (refine gs_nb (fun hg => ?_) (fun hg => ?_) <;> conv => whnf) | (refine gs_b (fun hg => ?_) (fun hg => ?_) <;> conv => whnf) | refine fin1 rfl rfl ?_))
      refine fin2 rfl rfl rfl ⟨lo, false, ?_, ⟨h2, h3, h4, ?_⟩, hB⟩
      · rfl
      · rw [decide_eq_false hl2]; rfl
/-- The place of a block. -/
theorem pFind {base g : Nat} {w : World} {bs : List Blk} {fp : List Nat} (hP : PSet base g w bs fp) (t : Int) (ht : 0 ≤ t ∧ t < 144115188075855872) (hl : bs.length ≤ 4611686018427387904) :
    Calls Try.prog 40 #[.pointer (some ⟨g, 0, none⟩), .int .i64 t] w fun e w' => ∃ (i : Nat) (ok : Bool), e = .returned (.tuple #[.int .i64 i, .bool ok]) ∧ fndB bs t i ok ∧ Below w.heap.size w w' := by
  obtain ⟨V, hb, ho, rfl, hne⟩ := hP.ex
  obtain ⟨A, c, rfl, hlc, hrow⟩ := ho.row
  refine enterR (args := [.pointer (some ⟨g, 0, none⟩), .int .i64 t]) tabOk Try.func40 rfl Try.ntmps40 rfl ?_; conv => whnf
  (repeat' (first | (refine wl_Lg tabOk hb rfl rfl rfl rfl rfl rfl rfl (run_l tabOk ?_); conv => whnf) | (refine wl_add rfl rfl rfl rfl rfl rfl (by omega) (by omega) (run_l tabOk ?_); conv => whnf) | (refine wl_sub rfl rfl rfl rfl rfl rfl (by omega) (by omega) (run_l tabOk ?_); conv => whnf) | (refine wl_cvA tabOk rfl rfl rfl (by simp only [inK]; omega) rfl rfl rfl (run_l tabOk ?_); conv => whnf) | (refine wl_cvB tabOk rfl rfl rfl rfl rfl rfl (run_l tabOk ?_); conv => whnf) | (refine wl_rem rfl rfl rfl rfl rfl rfl (by omega) (by omega) (fun r hr hr0 hr1 hr2 => run_l tabOk ?_); conv => whnf) | (refine wl_quo rfl rfl rfl rfl rfl rfl (by omega) (by omega) (by simp only [inK]; omega) (run_l tabOk ?_); conv => whnf) | (refine wl_mul rfl rfl rfl rfl rfl rfl (by omega) (by omega) (run_l tabOk ?_); conv => whnf) | (refine gs_dt (by first | assumption | omega) ?_; conv => whnf) | (refine gs_df (by first | assumption | omega) ?_; conv => whnf) | (refine gs_t (by assumption) ?_; conv => whnf) | (refine gs_f (by assumption) ?_; conv => whnf) | (refine gs_d (fun hg => ?_) (fun hg => ?_) <;> conv => whnf) | (refine gs_n (fun hg => ?_) (fun hg => ?_) <;> conv => whnf) | (refine gs_nb (fun hg => ?_) (fun hg => ?_) <;> conv => whnf) | (refine gs_b (fun hg => ?_) (fun hg => ?_) <;> conv => whnf) | refine fin1 rfl rfl ?_))
  refine wl_C fn54 (pSearch bs A c t (fun b hb' => ⟨(hP.wf.rng b hb').1, (hP.wf.rng b hb').2.1⟩) hP.wf.up ht hl w hrow) rfl rfl rfl rfl rfl rfl rfl ?_
  rintro _ w2 ⟨i, ok, rfl, hf, hB2⟩
  refine ⟨_, rfl, run_l tabOk ?_⟩
  conv => whnf
  (repeat' (first | (refine wl_add rfl rfl rfl rfl rfl rfl (by omega) (by omega) (run_l tabOk ?_); conv => whnf) | (refine wl_sub rfl rfl rfl rfl rfl rfl (by omega) (by omega) (run_l tabOk ?_); conv => whnf) | (refine wl_cvA tabOk rfl rfl rfl (by simp only [inK]; omega) rfl rfl rfl (run_l tabOk ?_); conv => whnf) | (refine wl_cvB tabOk rfl rfl rfl rfl rfl rfl (run_l tabOk ?_); conv => whnf) | (refine wl_rem rfl rfl rfl rfl rfl rfl (by omega) (by omega) (fun r hr hr0 hr1 hr2 => run_l tabOk ?_); conv => whnf) | (refine wl_quo rfl rfl rfl rfl rfl rfl (by omega) (by omega) (by simp only [inK]; omega) (run_l tabOk ?_); conv => whnf) | (refine wl_mul rfl rfl rfl rfl rfl rfl (by omega) (by omega) (run_l tabOk ?_); conv => whnf) | (refine gs_dt (by first | assumption | omega) ?_; conv => whnf) | (refine gs_df (by first | assumption | omega) ?_; conv => whnf) | (refine gs_t (by assumption) ?_; conv => whnf) | (refine gs_f (by assumption) ?_; conv => whnf) | (refine gs_d (fun hg => ?_) (fun hg => ?_) <;> conv => whnf) | (refine gs_n (fun hg => ?_) (fun hg => ?_) <;> conv => whnf) | (refine gs_nb (fun hg => ?_) (fun hg => ?_) <;> conv => whnf) | (refine gs_b (fun hg => ?_) (fun hg => ?_) <;> conv => whnf) | refine fin1 rfl rfl ?_))
  exact fin2 rfl rfl rfl ⟨i, ok, rfl, hf, hB2⟩
/-- A set's row; nil has none. -/
theorem pList {base g : Nat} {w : World} {bs : List Blk} {fp : List Nat} (hP : PSet base g w bs fp) :
    Calls Try.prog 47 #[.pointer (some ⟨g, 0, none⟩)] w fun e w' => ∃ A c, e = .returned (.slice A bs.length c) ∧ w.heap[g]? = some (.cells #[.slice A bs.length c] 76 (0, 0)) ∧ bs.length ≤ c ∧ RowR 2 dBlk w A bs ∧ Below w.heap.size w w' := by
  obtain ⟨V, hb, ho, rfl, hne⟩ := hP.ex
  obtain ⟨A, c, rfl, hlc, hrow⟩ := ho.row
  refine enterR (args := [.pointer (some ⟨g, 0, none⟩)]) tabOk Try.func47 rfl Try.ntmps47 rfl ?_; conv => whnf
  (repeat' (first | (refine wl_Lg tabOk hb rfl rfl rfl rfl rfl rfl rfl (run_l tabOk ?_); conv => whnf) | (refine wl_pnF tabOk rfl rfl rfl rfl rfl rfl (run_l tabOk ?_); conv => whnf) | (refine wl_pnT tabOk rfl rfl rfl rfl rfl rfl (run_l tabOk ?_); conv => whnf) | (refine wl_pqF tabOk rfl rfl rfl rfl rfl rfl (run_l tabOk ?_); conv => whnf) | (refine wl_pqT tabOk rfl rfl rfl rfl rfl rfl (run_l tabOk ?_); conv => whnf) | (refine wl_add rfl rfl rfl rfl rfl rfl (by omega) (by omega) (run_l tabOk ?_); conv => whnf) | (refine wl_sub rfl rfl rfl rfl rfl rfl (by omega) (by omega) (run_l tabOk ?_); conv => whnf) | (refine wl_cvA tabOk rfl rfl rfl (by simp only [inK]; omega) rfl rfl rfl (run_l tabOk ?_); conv => whnf) | (refine wl_cvB tabOk rfl rfl rfl rfl rfl rfl (run_l tabOk ?_); conv => whnf) | (refine wl_rem rfl rfl rfl rfl rfl rfl (by omega) (by omega) (fun r hr hr0 hr1 hr2 => run_l tabOk ?_); conv => whnf) | (refine wl_quo rfl rfl rfl rfl rfl rfl (by omega) (by omega) (by simp only [inK]; omega) (run_l tabOk ?_); conv => whnf) | (refine wl_mul rfl rfl rfl rfl rfl rfl (by omega) (by omega) (run_l tabOk ?_); conv => whnf) | (refine gs_dt (by first | assumption | omega) ?_; conv => whnf) | (refine gs_df (by first | assumption | omega) ?_; conv => whnf) | (refine gs_t (by assumption) ?_; conv => whnf) | (refine gs_f (by assumption) ?_; conv => whnf) | (refine gs_d (fun hg => ?_) (fun hg => ?_) <;> conv => whnf) | (refine gs_n (fun hg => ?_) (fun hg => ?_) <;> conv => whnf) | (refine gs_nb (fun hg => ?_) (fun hg => ?_) <;> conv => whnf) | (refine gs_b (fun hg => ?_) (fun hg => ?_) <;> conv => whnf) | refine fin1 rfl rfl ?_))
  exact ⟨A, c, rfl, hb, hlc, hrow, Below.refl _ _⟩
end Go.Proofs.Ytjggjhgbobmkhaa

/- pile: Has, Len, All; math/bits.OnesCount64, TrailingZeros64. -/
namespace Go.Proofs.Ytjggjhgbobmkhaa
open Go.RowKit
set_option linter.unusedVariables false
set_option linter.unusedSimpArgs false
set_option maxRecDepth 100000
theorem rowB_f {w : World} {A : Option Addr} {bs : List Blk} (h : RowR 2 dBlk w A bs) (i : Nat) (hi : i < bs.length) : ∃ ad, A = some ad ∧ w.cell? (ad.add (i * 2)) = some (.int .i64 bs[i]!.a) ∧ w.cell? ⟨(ad.add (i * 2)).block, (ad.add (i * 2)).off + 1, none⟩ = some (.int .u64 (bs[i]!.w : Int)) := by
  obtain ⟨ad, e, h1, h2, _⟩ := rowB_at h i hi
  refine ⟨ad, e, ?_, ?_⟩
  · have : (ad.add (i * 2)).add 0 = ad.add (i * 2) := addr_add0 _
    rwa [this] at h1
  · rw [add_field _ _ _ (by omega)]
    rwa [add_add] at h2
theorem bit_is (w k : Nat) : decide (((w >>> k &&& 1 : Nat) : Int) = 1) = w.testBit k := by
  rw [Nat.and_one_is_mod, Nat.shiftRight_eq_div_pow, Nat.testBit_eq_decide_div_mod_eq, decide_eq_decide]
  omega
theorem shr_u64 (w : Nat) (b : Int) (k : Nat) (hb : b = k) (hk : k < 64) : (w : Int) / 2 ^ min b.toNat IntKind.u64.bits = ((w >>> k : Nat) : Int) := by
  subst hb
  have : min ((k : Int)).toNat IntKind.u64.bits = k := by simp [IntKind.bits]; omega
  rw [this, Nat.shiftRight_eq_div_pow]
  simp
theorem shr_le (w k : Nat) (h : w < 18446744073709551616) : w >>> k < 18446744073709551616 := by
  rw [Nat.shiftRight_eq_div_pow]
  exact Nat.lt_of_le_of_lt (Nat.div_le_self _ _) h
theorem pHas {base g : Nat} {w : World} {bs : List Blk} {fp : List Nat} (hP : PSet base g w bs fp) (n : Int) (hn : n ≤ 9223372036854775807) (hl : bs.length ≤ 4611686018427387904) :
    Calls Try.prog 22 #[.pointer (some ⟨g, 0, none⟩), .int .i64 n] w fun e w' => e = .returned (.bool (decide (0 ≤ n) && memB bs n.toNat)) ∧ Below w.heap.size w w' := by
  obtain ⟨V, hb, ho, hfp, hne⟩ := hP.ex
  obtain ⟨A, c, rfl, hlc, hrow⟩ := ho.row
  refine enterR (args := [.pointer (some ⟨g, 0, none⟩), .int .i64 n]) tabOk Try.func22 rfl Try.ntmps22 rfl ?_; conv => whnf
  by_cases h0 : n < 0
  · (repeat' (first | (refine wl_pnF tabOk rfl rfl rfl rfl rfl rfl (run_l tabOk ?_); conv => whnf) | (refine wl_pnT tabOk rfl rfl rfl rfl rfl rfl (run_l tabOk ?_); conv => whnf) | (refine wl_pqF tabOk rfl rfl rfl rfl rfl rfl (run_l tabOk ?_); conv => whnf) | (refine wl_pqT tabOk rfl rfl rfl rfl rfl rfl (run_l tabOk ?_); conv => whnf) | (refine wl_add rfl rfl rfl rfl rfl rfl (by omega) (by omega) (run_l tabOk ?_); conv => whnf) | (refine wl_sub rfl rfl rfl rfl rfl rfl (by omega) (by omega) (run_l tabOk ?_); conv => whnf) | (refine wl_cvA tabOk rfl rfl rfl (by simp only [inK]; omega) rfl rfl rfl (run_l tabOk ?_); conv => whnf) | (refine wl_cvB tabOk rfl rfl rfl rfl rfl rfl (run_l tabOk ?_); conv => whnf) | (refine wl_rem rfl rfl rfl rfl rfl rfl (by omega) (by omega) (fun r hr hr0 hr1 hr2 => run_l tabOk ?_); conv => whnf) | (refine wl_quo rfl rfl rfl rfl rfl rfl (by omega) (by omega) (by simp only [inK]; omega) (run_l tabOk ?_); conv => whnf) | (refine wl_mul rfl rfl rfl rfl rfl rfl (by omega) (by omega) (run_l tabOk ?_); conv => whnf) | (refine gs_dt (by first | assumption | omega) ?_; conv => whnf) | (refine gs_df (by first | assumption | omega) ?_; conv => whnf) | (refine gs_t (by assumption) ?_; conv => whnf) | (refine gs_f (by assumption) ?_; conv => whnf) | (refine gs_d (fun hg => ?_) (fun hg => ?_) <;> conv => whnf) | (refine gs_n (fun hg => ?_) (fun hg => ?_) <;> conv => whnf) | (refine gs_nb (fun hg => ?_) (fun hg => ?_) <;> conv => whnf) | (refine gs_b (fun hg => ?_) (fun hg => ?_) <;> conv => whnf) | refine fin1 rfl rfl ?_))
    exact ⟨by rw [decide_eq_false (by omega : ¬ 0 ≤ n)]; rfl, Below.refl _ _⟩
  obtain ⟨m, rfl⟩ : ∃ m : Nat, n = m := ⟨n.toNat, by omega⟩
  (repeat' (first | (refine wl_pnF tabOk rfl rfl rfl rfl rfl rfl (run_l tabOk ?_); conv => whnf) | (refine wl_pnT tabOk rfl rfl rfl rfl rfl rfl (run_l tabOk ?_); conv => whnf) | (refine wl_pqF tabOk rfl rfl rfl rfl rfl rfl (run_l tabOk ?_); conv => whnf) | (refine wl_pqT tabOk rfl rfl rfl rfl rfl rfl (run_l tabOk ?_); conv => whnf) | (refine wl_add rfl rfl rfl rfl rfl rfl (by omega) (by omega) (run_l tabOk ?_); conv => whnf) | (refine wl_sub rfl rfl rfl rfl rfl rfl (by omega) (by omega) (run_l tabOk ?_); conv => whnf) | (refine wl_cvA tabOk rfl rfl rfl (by simp only [inK]; omega) rfl rfl rfl (run_l tabOk ?_); conv => whnf) | (refine wl_cvB tabOk rfl rfl rfl rfl rfl rfl (run_l tabOk ?_); conv => whnf) | (refine wl_rem rfl rfl rfl rfl rfl rfl (by omega) (by omega) (fun r hr hr0 hr1 hr2 => run_l tabOk ?_); conv => whnf) | (refine wl_quo rfl rfl rfl rfl rfl rfl (by omega) (by omega) (by simp only [inK]; omega) (run_l tabOk ?_); conv => whnf) | (refine wl_mul rfl rfl rfl rfl rfl rfl (by omega) (by omega) (run_l tabOk ?_); conv => whnf) | (refine gs_dt (by first | assumption | omega) ?_; conv => whnf) | (refine gs_df (by first | assumption | omega) ?_; conv => whnf) | (refine gs_t (by assumption) ?_; conv => whnf) | (refine gs_f (by assumption) ?_; conv => whnf) | (refine gs_d (fun hg => ?_) (fun hg => ?_) <;> conv => whnf) | (refine gs_n (fun hg => ?_) (fun hg => ?_) <;> conv => whnf) | (refine gs_nb (fun hg => ?_) (fun hg => ?_) <;> conv => whnf) | (refine gs_b (fun hg => ?_) (fun hg => ?_) <;> conv => whnf) | refine fin1 rfl rfl ?_))
  refine wl_C fn40 (pFind hP ((m : Int) / 64) (by omega) hl) rfl rfl rfl rfl rfl rfl rfl ?_
  rintro _ w2 ⟨i, ok, rfl, hf, hB⟩
  refine ⟨_, rfl, run_l tabOk ?_⟩
  conv => whnf
  obtain ⟨hi, hlo, hhi, hok⟩ := hf
  cases ok
  · (repeat' (first | (refine wl_add rfl rfl rfl rfl rfl rfl (by omega) (by omega) (run_l tabOk ?_); conv => whnf) | (refine wl_sub rfl rfl rfl rfl rfl rfl (by omega) (by omega) (run_l tabOk ?_); conv => whnf) | (refine wl_cvA tabOk rfl rfl rfl (by simp only [inK]; omega) rfl rfl rfl (run_l tabOk ?_); conv => whnf) | (refine wl_cvB tabOk rfl rfl rfl rfl rfl rfl (run_l tabOk ?_); conv => whnf) | (refine wl_rem rfl rfl rfl rfl rfl rfl (by omega) (by omega) (fun r hr hr0 hr1 hr2 => run_l tabOk ?_); conv => whnf) | (refine wl_quo rfl rfl rfl rfl rfl rfl (by omega) (by omega) (by simp only [inK]; omega) (run_l tabOk ?_); conv => whnf) | (refine wl_mul rfl rfl rfl rfl rfl rfl (by omega) (by omega) (run_l tabOk ?_); conv => whnf) | (refine gs_dt (by first | assumption | omega) ?_; conv => whnf) | (refine gs_df (by first | assumption | omega) ?_; conv => whnf) | (refine gs_t (by assumption) ?_; conv => whnf) | (refine gs_f (by assumption) ?_; conv => whnf) | (refine gs_d (fun hg => ?_) (fun hg => ?_) <;> conv => whnf) | (refine gs_n (fun hg => ?_) (fun hg => ?_) <;> conv => whnf) | (refine gs_nb (fun hg => ?_) (fun hg => ?_) <;> conv => whnf) | (refine gs_b (fun hg => ?_) (fun hg => ?_) <;> conv => whnf) | refine fin1 rfl rfl ?_))
    refine ⟨?_, hB⟩
    rw [memB_none, Bool.and_false]
    intro j hj e
    simp only [Int.toNat_natCast] at e
    rcases Nat.lt_or_ge j i with h1 | h1
    · have := hlo j h1; omega
    · rcases Nat.lt_or_ge i bs.length with h3 | h3
      · rw [decide_eq_true h3] at hok
        have h4 : ¬ bs[i]!.a = (m : Int) / 64 := by simpa using hok.symm
        rcases Nat.lt_or_ge i j with h5 | h5
        · have := hhi i (Nat.le_refl _) h3
          have := hP.wf.up i j h5 hj
          omega
        · have : j = i := by omega
          subst this
          omega
      · omega
  · have hok := hok.symm
    rw [Bool.and_eq_true, decide_eq_true_eq, decide_eq_true_eq] at hok
    obtain ⟨hi2, he⟩ := hok
    obtain ⟨ad, rfl, _, hc⟩ := rowB_f (hrow.up stays_Blk hB) i hi2
    have hb2 := blk_up hB hb
    have hrg := hP.wf.rng _ (mem_getB hi2)
    (repeat' (first | (refine wl_Lg tabOk hb2 rfl rfl rfl rfl rfl rfl rfl (run_l tabOk ?_); conv => whnf) | (refine wl_L tabOk rfl rfl rfl rfl rfl rfl hc (run_l tabOk ?_); conv => whnf) | (refine wl_Xn tabOk 82 2 rfl rfl rfl rfl rfl rfl rfl (by omega) (run_l tabOk ?_); conv => whnf) | (refine wl_add rfl rfl rfl rfl rfl rfl (by omega) (by omega) (run_l tabOk ?_); conv => whnf) | (refine wl_sub rfl rfl rfl rfl rfl rfl (by omega) (by omega) (run_l tabOk ?_); conv => whnf) | (refine wl_cvA tabOk rfl rfl rfl (by simp only [inK]; omega) rfl rfl rfl (run_l tabOk ?_); conv => whnf) | (refine wl_cvB tabOk rfl rfl rfl rfl rfl rfl (run_l tabOk ?_); conv => whnf) | (refine wl_rem rfl rfl rfl rfl rfl rfl (by omega) (by omega) (fun r hr hr0 hr1 hr2 => run_l tabOk ?_); conv => whnf) | (refine wl_quo rfl rfl rfl rfl rfl rfl (by omega) (by omega) (by simp only [inK]; omega) (run_l tabOk ?_); conv => whnf) | (refine wl_mul rfl rfl rfl rfl rfl rfl (by omega) (by omega) (run_l tabOk ?_); conv => whnf) | (refine gs_dt (by first | assumption | omega) ?_; conv => whnf) | (refine gs_df (by first | assumption | omega) ?_; conv => whnf) | (refine gs_t (by assumption) ?_; conv => whnf) | (refine gs_f (by assumption) ?_; conv => whnf) | (refine gs_d (fun hg => ?_) (fun hg => ?_) <;> conv => whnf) | (refine gs_n (fun hg => ?_) (fun hg => ?_) <;> conv => whnf) | (refine gs_nb (fun hg => ?_) (fun hg => ?_) <;> conv => whnf) | (refine gs_b (fun hg => ?_) (fun hg => ?_) <;> conv => whnf) | refine fin1 rfl rfl ?_))
    refine wl_shr (r := ((bs[i]!.w >>> (m % 64) : Nat) : Int)) (shr_u64 _ _ _ (by omega) (by omega)) rfl rfl rfl (by omega) rfl rfl rfl ?_
    refine run_l tabOk ?_
    conv => whnf
    refine wl_bit (r := ((bs[i]!.w >>> (m % 64) &&& 1 : Nat) : Int)) (bits_and_u64_nat _ 1 (shr_le _ _ hrg.2.2.2) (by omega)) rfl rfl rfl rfl rfl rfl rfl ?_
    refine run_l tabOk ?_
    conv => whnf
    (repeat' (first | (refine wl_add rfl rfl rfl rfl rfl rfl (by omega) (by omega) (run_l tabOk ?_); conv => whnf) | (refine wl_sub rfl rfl rfl rfl rfl rfl (by omega) (by omega) (run_l tabOk ?_); conv => whnf) | (refine wl_cvA tabOk rfl rfl rfl (by simp only [inK]; omega) rfl rfl rfl (run_l tabOk ?_); conv => whnf) | (refine wl_cvB tabOk rfl rfl rfl rfl rfl rfl (run_l tabOk ?_); conv => whnf) | (refine wl_rem rfl rfl rfl rfl rfl rfl (by omega) (by omega) (fun r hr hr0 hr1 hr2 => run_l tabOk ?_); conv => whnf) | (refine wl_quo rfl rfl rfl rfl rfl rfl (by omega) (by omega) (by simp only [inK]; omega) (run_l tabOk ?_); conv => whnf) | (refine wl_mul rfl rfl rfl rfl rfl rfl (by omega) (by omega) (run_l tabOk ?_); conv => whnf) | (refine gs_dt (by first | assumption | omega) ?_; conv => whnf) | (refine gs_df (by first | assumption | omega) ?_; conv => whnf) | (refine gs_t (by assumption) ?_; conv => whnf) | (refine gs_f (by assumption) ?_; conv => whnf) | (refine gs_d (fun hg => ?_) (fun hg => ?_) <;> conv => whnf) | (refine gs_n (fun hg => ?_) (fun hg => ?_) <;> conv => whnf) | (refine gs_nb (fun hg => ?_) (fun hg => ?_) <;> conv => whnf) | (refine gs_b (fun hg => ?_) (fun hg => ?_) <;> conv => whnf) | refine fin1 rfl rfl ?_))
    refine ⟨?_, bup hB (Below.refl _ _)⟩
    rw [bit_is]
    simp only [Int.toNat_natCast]
    rw [hP.wf.at_ hi2 (n := m) (by omega)]
    simp
end Go.Proofs.Ytjggjhgbobmkhaa
