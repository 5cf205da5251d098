/- Several texts of one claim in one file: HP18 EW18 Y03. -/
import Derived.Test.YtjggjhgbobmkhaaY15
import Derived.StringKeys
import Derived.Test.YtjggjhgbobmkhaaY17
import Derived.Laws.BytesString
import Derived.Laws.StructEq
/- Labels by keys, given as they come: plain. -/
namespace Go.Proofs.Ytjggjhgbobmkhaa
set_option linter.unusedVariables false
set_option linter.unusedSimpArgs false
theorem getL {α : Type} [Inhabited α] {L : List α} {x : α} {i : Nat} (h : i < L.length) : (L ++ [x])[i]! = L[i]! := by
  rw [getElem!_pos (L ++ [x]) i (by simp; omega), getElem!_pos L i h, List.getElem_append_left h]
theorem getE {α : Type} [Inhabited α] (L : List α) (x : α) : (L ++ [x])[L.length]! = x := by
  rw [getElem!_pos (L ++ [x]) L.length (by simp)]
  simp
theorem setF_at' {f : Nat → Int} {k : Nat} {x : Int} : setF f k x k = x := by simp [setF]
theorem setF_ne' {f : Nat → Int} {k j : Nat} {x : Int} (h : j ≠ k) : setF f k x j = f j := by simp [setF, h]
theorem nxt_setF {f : Nat → Int} {k v : Nat} {x : Int} (h : v ≤ k) : nxt (setF f k x) v = nxt f v := nxt_congr fun u hu => setF_ne' (by omega)
structure LbI (Z : Nat → Prop) (key : Nat → ByteArray) (v : Nat) (hl : Nat → Int) (L : List ByteArray) : Prop where
  z : ∀ u, u < v → Z u → hl u = -1
  k : ∀ u, u < v → ¬ Z u → ∃ i : Nat, i < L.length ∧ hl u = (i : Int) ∧ L[i]! = key u
  nd : L.Nodup
  nx : nxt hl v = L.length
  le : ∀ u, u < v → hl u ≤ (nxt hl u : Int)
section
variable {Z : Nat → Prop} {key : Nat → ByteArray} {v : Nat} {hl : Nat → Int} {L : List ByteArray}
theorem LbI.start (hl : Nat → Int) : LbI Z key 0 hl [] := ⟨fun u h => absurd h (Nat.not_lt_zero u), fun u h => absurd h (Nat.not_lt_zero u), .nil, rfl, fun u h => absurd h (Nat.not_lt_zero u)⟩
theorem LbI.len (h : LbI Z key v hl L) : L.length ≤ v := by
  rw [← h.nx]
  clear h
  induction v with
  | zero => simp [nxt]
  | succ v ih => unfold nxt; split <;> omega
theorem LbI.zero (h : LbI Z key v hl L) (hz : Z v) : LbI Z key (v + 1) (setF hl v (-1)) L := by
  refine ⟨fun u hu hzu => ?_, fun u hu hn => ?_, h.nd, ?_, fun u hu => ?_⟩
  · by_cases e : u = v
    · rw [e, setF_at']
    · rw [setF_ne' e]; exact h.z u (by omega) hzu
  · by_cases e : u = v
    · exact absurd (e ▸ hz) hn
    · rw [setF_ne' e]; exact h.k u (by omega) hn
  · unfold nxt
    rw [nxt_setF (Nat.le_refl _), setF_at', if_neg (by omega)]
    exact h.nx
  · rw [nxt_setF (by omega)]
    by_cases e : u = v
    · rw [e, setF_at']; omega
    · rw [setF_ne' e]; exact h.le u (by omega)
theorem LbI.old (h : LbI Z key v hl L) (hz : ¬ Z v) {i : Nat} (hi : i < L.length) (e0 : L[i]! = key v) : LbI Z key (v + 1) (setF hl v i) L := by
  refine ⟨fun u hu hzu => ?_, fun u hu hn => ?_, h.nd, ?_, fun u hu => ?_⟩
  · by_cases e : u = v
    · exact absurd (e ▸ hzu) hz
    · rw [setF_ne' e]; exact h.z u (by omega) hzu
  · by_cases e : u = v
    · rw [e, setF_at']; exact ⟨i, hi, rfl, e0⟩
    · rw [setF_ne' e]; exact h.k u (by omega) hn
  · have := h.nx
    unfold nxt
    rw [nxt_setF (Nat.le_refl _), setF_at', if_neg (by omega)]
    exact h.nx
  · rw [nxt_setF (by omega)]
    by_cases e : u = v
    · have := h.nx
      rw [e, setF_at']; omega
    · rw [setF_ne' e]; exact h.le u (by omega)
theorem LbI.new (h : LbI Z key v hl L) (hz : ¬ Z v) (hx : key v ∉ L) : LbI Z key (v + 1) (setF hl v L.length) (L ++ [key v]) := by
  refine ⟨fun u hu hzu => ?_, fun u hu hn => ?_, ?_, ?_, fun u hu => ?_⟩
  · by_cases e : u = v
    · exact absurd (e ▸ hzu) hz
    · rw [setF_ne' e]; exact h.z u (by omega) hzu
  · by_cases e : u = v
    · rw [e, setF_at']; exact ⟨L.length, by simp, rfl, getE _ _⟩
    · rw [setF_ne' e]
      obtain ⟨i, h1, h2, h3⟩ := h.k u (by omega) hn
      exact ⟨i, by simp; omega, h2, by rw [getL h1]; exact h3⟩
  · rw [List.nodup_append]
    exact ⟨h.nd, by simp, fun a ha c hc e => by simp at hc; subst hc; exact hx (e ▸ ha)⟩
  · have := h.nx
    unfold nxt
    rw [nxt_setF (Nat.le_refl _), setF_at', if_pos (by omega), List.length_append]
    simp
    omega
  · rw [nxt_setF (by omega)]
    by_cases e : u = v
    · have := h.nx
      rw [e, setF_at']; omega
    · rw [setF_ne' e]; exact h.le u (by omega)
theorem LbI.done {E : Nat → Nat → Prop} (h : LbI Z key v hl L) (hE : ∀ a b, a < v → b < v → (key a = key b ↔ E a b)) (hZ : ∀ a b, a < v → b < v → E a b → (Z a ↔ Z b)) (hZ2 : ∀ a b, Z a → Z b → E a b) : Canon v hl E Z := by
  have neg : ∀ u, u < v → (hl u = -1 ↔ Z u) := fun u hu => ⟨fun e => by
    apply Classical.byContradiction
    intro hn
    obtain ⟨i, _, h2, _⟩ := h.k u hu hn
    omega, h.z u hu⟩
  refine ⟨neg, fun a b ha hb => ?_, fun u hu => ⟨?_, h.le u hu⟩⟩
  · by_cases za : Z a
    · by_cases zb : Z b
      · exact ⟨fun _ => hZ2 a b za zb, fun _ => by rw [h.z a ha za, h.z b hb zb]⟩
      · refine ⟨fun e => absurd ((neg b hb).1 (by rw [← e]; exact h.z a ha za)) zb, fun e => absurd ((hZ a b ha hb e).1 za) zb⟩
    · by_cases zb : Z b
      · refine ⟨fun e => absurd ((neg a ha).1 (by rw [e]; exact h.z b hb zb)) za, fun e => absurd ((hZ a b ha hb e).2 zb) za⟩
      · obtain ⟨i, i1, i2, i3⟩ := h.k a ha za
        obtain ⟨j, j1, j2, j3⟩ := h.k b hb zb
        rw [← hE a b ha hb, ← i3, ← j3, i2, j2]
        constructor
        · intro e
          rw [show i = j by omega]
        · intro e
          rw [getElem!_pos L i i1, getElem!_pos L j j1] at e
          have hnd := List.pairwise_iff_getElem.1 h.nd
          rcases Nat.lt_trichotomy i j with q | q | q
          · exact absurd e (hnd i j i1 j1 q)
          · rw [q]
          · exact absurd e.symm (hnd j i j1 i1 q)
  · by_cases z : Z u
    · rw [h.z u hu z]; omega
    · obtain ⟨i, _, h2, _⟩ := h.k u hu z
      omega
end
end Go.Proofs.Ytjggjhgbobmkhaa

/- Maps from texts to numbers, each key with the number of those ahead of it. -/
namespace Go.Proofs.Ytjggjhgbobmkhaa
open Go.RowKit
set_option linter.unusedVariables false
set_option linter.unusedSimpArgs false
theorem str_inj {a b : ByteArray} (h : (Lit.string a.data.toList) = (Lit.string b.data.toList)) : a = b := by
  injection h with h
  cases a
  cases b
  congr 1
  exact Array.toList_inj.1 h
theorem isKey_str (x : ByteArray) : WideAt.IsKeyLit (.string x.data.toList) := by simp [WideAt.IsKeyLit]
structure StrT (P : Program) (t k e : TypeId) : Prop where
  t : P.underlying t = some (.map k e)
  k : P.underlying k = some .string
  e : P.underlying e = some (.int .i64)
section
variable {P : Program} {t k e : TypeId} {w w1 : World} {b n : Nat} {L : List ByteArray}
structure StrM (P : Program) (k e : TypeId) (w : World) (b : Nat) (L : List ByteArray) (n : Nat) : Prop where
  ex : ∃ D : DataW Unit, w.ownsMap P k (plainElem P e) b n D ∧ (∀ l, Maps.has D l = true ↔ ∃ x ∈ L, l = Lit.string x.data.toList) ∧ Maps.size D = L.length ∧ ∀ i, i < L.length → ∀ z, D.atKey (.string (L[i]!).data.toList) z = .lit (.int .i64 (i : Int))
  nd : L.Nodup
theorem StrM.lt (h : StrM P k e w b L n) : b < w.heap.size := by
  obtain ⟨D, h1, _⟩ := h.ex
  exact h1.lt
theorem StrM.kept {row : Option Nat} (h : StrM P k e w b L n) (hg : w.grownBy w1 row) (hne : some b ≠ row) : StrM P k e w1 b L n := by
  obtain ⟨D, h1, h2⟩ := h.ex
  exact ⟨⟨D, h1.kept hg hne, h2⟩, h.nd⟩
theorem StrM.up (h : StrM P k e w b L n) (hb : Below w.heap.size w w1) : StrM P k e w1 b L n := h.kept (row := none) (grown_of hb) nofun
theorem StrM.made (hb : w1 = w.alloc (.map #[] 0)) : StrM P k e w1 w.heap.size [] 0 := by
  subst hb
  refine ⟨⟨.map [], World.ownsMap_made w P k _, fun l => ⟨fun h => (by cases h), fun ⟨x, hx, _⟩ => (by cases hx)⟩, rfl, fun i hi => absurd hi (Nat.not_lt_zero i)⟩, .nil⟩
theorem StrM.put (hT : StrT P t k e) (h : StrM P k e w b L n) (hn : n < maxLen) {x : ByteArray} (hx : x.size ≤ maxLen) (hm : inI (L.length : Int)) (hxL : x ∉ L) :
    ∃ w', (Instr.mapUpdate t (.map (some b)) (.string x) (.int .i64 (L.length : Int))).run P w = .ok () w' ∧ StrM P k e w' b (L ++ [x]) (n + 1) ∧ w.grownBy w' (some b) := by
  obtain ⟨D, h1, h2, h3, h4⟩ := h.ex
  have K := Maps.string_keyed (P := P) hT.k
  obtain ⟨w', hr, h5, h6⟩ := h1.update K hT.t hn (WideMaps.keyOf_string_mk hT.k hx) (plainElem_int hT.e (wf_inI hm))
  refine ⟨w', hr, ⟨⟨_, h5, fun l => ?_, ?_, fun i hi z => ?_⟩, ?_⟩, h6⟩
  · by_cases e1 : l = .string x.data.toList
    · subst e1
      rw [Maps.has_put_same (h1.isMap) (isKey_str x)]
      exact ⟨fun _ => ⟨x, by simp, rfl⟩, fun _ => rfl⟩
    · rw [Maps.has_put_other e1, h2]
      constructor
      · rintro ⟨y, hy, rfl⟩
        exact ⟨y, by simp [hy], rfl⟩
      · rintro ⟨y, hy, rfl⟩
        rcases List.mem_append.1 hy with hy | hy
        · exact ⟨y, hy, rfl⟩
        · simp at hy
          subst hy
          exact absurd rfl e1
  · rw [Maps.size_put (h1.tidy K)]
    have hm : ¬ Maps.has D (.string x.data.toList) = true := fun hh => by
      obtain ⟨y, hy, e⟩ := (h2 _).1 hh
      exact hxL (str_inj e ▸ hy)
    rw [if_neg hm, h3]
    simp
  · have hi : i < L.length + 1 := by simpa using hi
    by_cases e1 : i < L.length
    · have e2 : (L ++ [x])[i]! = L[i]! := by
        rw [getElem!_pos (L ++ [x]) i (by simp; omega), getElem!_pos L i e1, List.getElem_append_left e1]
      rw [e2]
      have hne : L[i]! ≠ x := fun e => hxL (by rw [← e, getElem!_pos L i e1]; exact List.getElem_mem e1)
      rw [Maps.atKey_put_other (fun e3 => hne (str_inj e3)), h4 i e1]
    · have e2 : i = L.length := by omega
      subst e2
      have e2 : (L ++ [x])[L.length]! = x := by
        rw [getElem!_pos (L ++ [x]) L.length (by simp)]
        simp
      rw [e2]
      exact Maps.atKey_put_same h1.isMap (isKey_str x) _ z
  · rw [List.nodup_append]
    exact ⟨h.nd, by simp, fun a ha c hc e => by simp at hc; subst hc; exact hxL (e ▸ ha)⟩
theorem StrM.len (hT : StrT P t k e) (h : StrM P k e w b L n) (ty : TypeId) : (Builtin.len_ #[t] ty #[.map (some b)]).run P w = .ok (.int .i64 (L.length : Int)) w := by
  obtain ⟨D, h1, h2, h3, _⟩ := h.ex
  rw [h1.len hT.t ty, h3]
theorem StrM.look (hT : StrT P t k e) (h : StrM P k e w b L n) (hz : (zeroValue e).run P w = .ok (.int .i64 0) w) {x : ByteArray} (hx : x.size ≤ maxLen) :
    ∃ (v : Int) (ok : Bool), (Instr.lookup t (.map (some b)) (.string x) true).run P w = .ok (.tuple #[.int .i64 v, .bool ok]) w ∧ (ok = true ↔ x ∈ L) ∧ ∀ i, i < L.length → L[i]! = x → v = (i : Int) := by
  obtain ⟨D, h1, h2, h3, h4⟩ := h.ex
  have K := Maps.string_keyed (P := P) hT.k
  obtain ⟨v, ps, hr, hv⟩ := h1.look_ok K hT.t hz (plainElem_int hT.e (by decide)) (WideMaps.keyOf_string_mk hT.k hx)
  obtain ⟨c, rfl, hc, _⟩ := plainElem_int_inv hT.e hv
  have hhas : Maps.has D (.string x.data.toList) = true ↔ x ∈ L := by
    rw [h2]
    exact ⟨fun ⟨y, hy, e⟩ => str_inj e ▸ hy, fun hx => ⟨x, hx, rfl⟩⟩
  refine ⟨c, _, hr, hhas, fun i hi e => ?_⟩
  have h5 := h4 i hi (.lit (.int .i64 0))
  rw [e] at h5
  simp only [Prod.mk.injEq] at hc
  have h6 := hc.1.symm.trans h5
  injection h6 with h6
  injection h6
end
theorem strTy : StrT Try.prog 67 9 3 := ⟨Try.underlying67, Try.underlying9, Try.underlying3⟩
abbrev SNum := StrM Try.prog 9 3
end Go.Proofs.Ytjggjhgbobmkhaa

/- pile: Key. -/
namespace Go.Proofs.Ytjggjhgbobmkhaa
open Go.RowKit
set_option linter.unusedVariables false
set_option linter.unusedSimpArgs false
set_option linter.unnecessarySimpa false
set_option maxRecDepth 100000
def byV (n : Nat) : Value := .int .u8 (n : Int)
def strB (l : List Nat) : ByteArray := (l.map fun (n : Nat) => (n : Int)).foldl (fun r n => r.push (UInt8.ofNat n.toNat)) ByteArray.empty
theorem foldB (l : List Nat) : ∀ r : ByteArray, ((l.map fun (n : Nat) => (n : Int)).foldl (fun r n => r.push (UInt8.ofNat n.toNat)) r).data.toList = r.data.toList ++ l.map UInt8.ofNat := by
  induction l with
  | nil => intro r; simp
  | cons a l ih =>
    intro r
    simp only [List.map_cons, List.foldl_cons]
    rw [ih]
    simp [ByteArray.push]
theorem strB_inj {x y : List Nat} (hx : ∀ n ∈ x, n < 256) (hy : ∀ n ∈ y, n < 256) (h : strB x = strB y) : x = y := by
  have h1 := congrArg (fun b : ByteArray => b.data.toList) h
  simp only [strB, foldB] at h1
  have h2 : x.map UInt8.ofNat = y.map UInt8.ofNat := by simpa using h1
  have back : ∀ l : List Nat, (∀ n ∈ l, n < 256) → (l.map UInt8.ofNat).map UInt8.toNat = l := fun l hl => by
    rw [List.map_map]
    conv => rhs; rw [← List.map_id l]
    refine List.map_congr_left fun n hn => ?_
    simp [Nat.mod_eq_of_lt (hl n hn)]
  rw [← back x hx, ← back y hy, h2]
theorem keyB_lt {bs : List Blk} : ∀ n ∈ keyB bs, n < 256 := by
  intro n hn
  obtain ⟨b, _, hb⟩ := List.mem_flatMap.1 hn
  rcases List.mem_append.1 hb with h | h
  · obtain ⟨i, _, rfl⟩ := List.mem_map.1 h; exact Nat.mod_lt _ (by omega)
  · obtain ⟨i, _, rfl⟩ := List.mem_map.1 h; exact Nat.mod_lt _ (by omega)
theorem bbeq (a b : ByteArray) : (a == b) = decide (a = b) := by
  obtain ⟨x⟩ := a
  obtain ⟨y⟩ := b
  show (x == y) = _
  rw [Bool.eq_iff_iff]
  simp
/-- Keys are one just if the sets are. -/
theorem keyS_eq {xs ys : List Blk} (hx : WFB xs) (hy : WFB ys) (h1 : ∀ b ∈ xs, b.a < 4294967296) (h2 : ∀ b ∈ ys, b.a < 4294967296) : (strB (keyB xs) == strB (keyB ys)) = decide (xs = ys) := by
  rw [bbeq, decide_eq_decide]
  constructor
  · intro h
    exact keyB_inj (fun b hb => ⟨(hx.rng b hb).1, h1 b hb, (hx.rng b hb).2.2.2⟩) (fun b hb => ⟨(hy.rng b hb).1, h2 b hb, (hy.rng b hb).2.2.2⟩) (strB_inj keyB_lt keyB_lt h)
  · intro h; rw [h]
section
variable {P : Program} {T : Nat → Option TI} {n : Nat} {Q : Post} {F : Fm} {w : World} {ops : Array Oper} {rest : List Oper} {o : Oper}
/-- string(p), p a row of bytes. -/
theorem wl_str {base : Nat} {s d9 e : TypeId} {x : Operand} {V : Value} {l : List Nat} (hop : o.op = .convert s d9 x) (hx : ev F x = V) (hs : P.underlying s = some (.slice e)) (he : P.underlying e = some (.int .u8)) (hd9 : P.underlying d9 = some .string)
    (hown : w.ownsRow base e 1 V l.length (l.map byV)) (hg : o.guard = none) {d : Nat} (hd : o.dst = some d) (hn : Nat.blt d n = true)
    (k : wl P n ops rest Q (upd F d (.string (strB l))) w) : wl P n ops (o :: rest) Q F w := by
  refine wl_val hg hd hn ?_ k
  rcases hown.2 with ⟨rfl, h0⟩ | ⟨g, cap, cur, rfl, _, hcur, hnc, _, hcs, htk⟩
  · have hl : l = [] := List.eq_nil_of_length_eq_zero h0
    subst hl
    have h1 := run_convert_bytes_string w s d9 e none 0 0 hs he hd9
    have h2 : (Conv.bytesToString (.slice none 0 0)).run P w = .ok (.string (strB [])) w := by
      unfold Conv.bytesToString
      simp [strB]
    simp [execOp, hop, hx, h1, h2]
  · have h1 := run_convert_bytes_string w s d9 e (some ⟨g, 0, none⟩) l.length cap hs he hd9
    have hl := run_loadCells_list (P := P) w ⟨g, 0, none⟩ (l.map byV) (fun j v hv => by
      rw [add_zero]
      refine cell_blk hcur ?_
      rw [← htk, List.getElem?_take] at hv
      split at hv
      · simpa using hv
      · cases hv)
    have e2 : l.map byV = (l.map fun (n : Nat) => (n : Int)).map (Value.int .u8) := by simp [byV]
    rw [List.length_map, e2] at hl
    have h2 := run_bytesToString w ⟨g, 0, none⟩ l.length cap _ hl
    have h3 : (Conv.bytesToString (.slice (some ⟨g, 0, none⟩) l.length cap)).run P w = .ok (.string (strB l)) w := h2
    simp [execOp, hop, hx, h1, h3]
end
theorem own_pushV {w : World} {base : Nat} {e : TypeId} {A : Option Addr} {c : Nat} {l : List Nat} {x : Nat} (h : w.ownsRow base e 1 (.slice A (l.length + 1) c) (l.length + 1) (l.map byV ++ [byV x])) : w.ownsRow base e 1 (.slice A (l ++ [x]).length c) (l ++ [x]).length ((l ++ [x]).map byV) := by
  have e1 : (l ++ [x]).length = l.length + 1 := by simp
  rw [e1, List.map_append]
  exact h
theorem u8_shr_i (a : Int) (j : Nat) (ha : 0 ≤ a) (hj : j < 8) : IntKind.u8.wrap (a / 2 ^ min ((8 * (j : Int))).toNat IntKind.i64.bits) = ((a.toNat / 2 ^ (8 * j) % 256 : Nat) : Int) := by
  have e : min ((8 * (j : Int))).toNat IntKind.i64.bits = 8 * j := by simp [IntKind.bits]; omega
  obtain ⟨m, rfl⟩ : ∃ m : Nat, a = m := ⟨a.toNat, by omega⟩
  rw [e]
  simp [IntKind.wrap, IntKind.signed, IntKind.bits]
theorem u8_shr_u (a : Nat) (j : Nat) (hj : j < 8) : IntKind.u8.wrap ((a : Int) / 2 ^ min ((8 * (j : Int))).toNat IntKind.u64.bits) = ((a / 2 ^ (8 * j) % 256 : Nat) : Int) := by
  have e : min ((8 * (j : Int))).toNat IntKind.u64.bits = 8 * j := by simp [IntKind.bits]; omega
  rw [e]
  simp [IntKind.wrap, IntKind.signed, IntKind.bits]
theorem map_range_next (f : Nat → Nat) (pre : List Nat) (j : Nat) : pre ++ (List.range (j + 1)).map f = (pre ++ (List.range j).map f) ++ [f j] := by
  rw [List.range_succ]; simp
theorem keyB_take {bs : List Blk} {i : Nat} (hi : i < bs.length) : keyB (bs.take (i + 1)) = keyB (bs.take i) ++ keyOf bs[i]! := by
  rw [take_nextB hi]; simp [keyB]
theorem keyB_len : ∀ bs : List Blk, (keyB bs).length = 12 * bs.length
  | [] => rfl
  | b :: bs => by
    have h : keyB (b :: bs) = keyOf b ++ keyB bs := rfl
    rw [h, List.length_append, keyOf_len, keyB_len bs, List.length_cons]
    omega
set_option maxHeartbeats 16000000 in
theorem pKeyL (bs : List Blk) (A : Option Addr) (c : Nat) (v : Option Addr) (w : World) (hr : ∀ b ∈ bs, 0 ≤ b.a) (hl : bs.length ≤ 1099511627776)
    (hlist : Calls Try.prog 47 #[.pointer v] w fun e w' => e = .returned (.slice A bs.length c) ∧ Below w.heap.size w w' ∧ RowR 2 dBlk w' A bs) :
    Calls Try.prog 32 #[.pointer v] w fun e w' => e = .returned (.string (strB (keyB bs))) ∧ Below w.heap.size w w' := by
  refine enterR (args := [.pointer v]) tabOk Try.func32 rfl Try.ntmps32 rfl ?_; conv => whnf
  (repeat' (first | (refine wl_add rfl rfl rfl rfl rfl rfl (by omega) (by omega) (run_l tabOk ?_); conv => whnf) | (refine wl_sub rfl rfl rfl rfl rfl rfl (by omega) (by omega) (run_l tabOk ?_); conv => whnf) | (refine wl_cvA tabOk rfl rfl rfl (by simp only [inK]; omega) rfl rfl rfl (run_l tabOk ?_); conv => whnf) | (refine wl_cvB tabOk rfl rfl rfl rfl rfl rfl (run_l tabOk ?_); conv => whnf) | (refine wl_rem rfl rfl rfl rfl rfl rfl (by omega) (by omega) (fun r hr hr0 hr1 hr2 => run_l tabOk ?_); conv => whnf) | (refine wl_quo rfl rfl rfl rfl rfl rfl (by omega) (by omega) (by simp only [inK]; omega) (run_l tabOk ?_); conv => whnf) | (refine wl_mul rfl rfl rfl rfl rfl rfl (by omega) (by omega) (run_l tabOk ?_); conv => whnf) | (refine gs_dt (by first | assumption | omega) ?_; conv => whnf) | (refine gs_df (by first | assumption | omega) ?_; conv => whnf) | (refine gs_t (by assumption) ?_; conv => whnf) | (refine gs_f (by assumption) ?_; conv => whnf) | (refine gs_d (fun hg => ?_) (fun hg => ?_) <;> conv => whnf) | (refine gs_n (fun hg => ?_) (fun hg => ?_) <;> conv => whnf) | (refine gs_nb (fun hg => ?_) (fun hg => ?_) <;> conv => whnf) | (refine gs_b (fun hg => ?_) (fun hg => ?_) <;> conv => whnf) | refine fin1 rfl rfl ?_))
  refine wl_C fn47 hlist rfl rfl rfl rfl rfl rfl rfl ?_
  rintro _ w1 ⟨rfl, hB1, hrow⟩
  refine ⟨_, rfl, run_l tabOk ?_⟩
  conv => whnf
  (repeat' (first | (refine wl_add rfl rfl rfl rfl rfl rfl (by omega) (by omega) (run_l tabOk ?_); conv => whnf) | (refine wl_sub rfl rfl rfl rfl rfl rfl (by omega) (by omega) (run_l tabOk ?_); conv => whnf) | (refine wl_cvA tabOk rfl rfl rfl (by simp only [inK]; omega) rfl rfl rfl (run_l tabOk ?_); conv => whnf) | (refine wl_cvB tabOk rfl rfl rfl rfl rfl rfl (run_l tabOk ?_); conv => whnf) | (refine wl_rem rfl rfl rfl rfl rfl rfl (by omega) (by omega) (fun r hr hr0 hr1 hr2 => run_l tabOk ?_); conv => whnf) | (refine wl_quo rfl rfl rfl rfl rfl rfl (by omega) (by omega) (by simp only [inK]; omega) (run_l tabOk ?_); conv => whnf) | (refine wl_mul rfl rfl rfl rfl rfl rfl (by omega) (by omega) (run_l tabOk ?_); conv => whnf) | (refine gs_dt (by first | assumption | omega) ?_; conv => whnf) | (refine gs_df (by first | assumption | omega) ?_; conv => whnf) | (refine gs_t (by assumption) ?_; conv => whnf) | (refine gs_f (by assumption) ?_; conv => whnf) | (refine gs_d (fun hg => ?_) (fun hg => ?_) <;> conv => whnf) | (refine gs_n (fun hg => ?_) (fun hg => ?_) <;> conv => whnf) | (refine gs_nb (fun hg => ?_) (fun hg => ?_) <;> conv => whnf) | (refine gs_b (fun hg => ?_) (fun hg => ?_) <;> conv => whnf) | refine fin1 rfl rfl ?_))
  refine lp_loop tabOk (X := Nat × Option Addr × Nat) (fun x => [(3, .slice x.2.1 (keyB (bs.take x.1)).length x.2.2), (9, .slice A bs.length c), (10, .int .i64 bs.length), (11, .int .i64 x.1)])
    (fun x wr => x.1 ≤ bs.length ∧ wr.ownsRow w1.heap.size 5 1 (.slice x.2.1 (keyB (bs.take x.1)).length x.2.2) (keyB (bs.take x.1)).length ((keyB (bs.take x.1)).map byV) ∧ Below w1.heap.size w1 wr) (fun x => bs.length - x.1) (0, none, 0) ⟨rfl, rfl, rfl, rfl, trivial⟩ ⟨by simp only; omega, own_nil .., Below.refl _ _⟩ ?_
  intro ⟨i, D, dc⟩ G wr ⟨hi, hI, hB⟩
  simp only at hi hI
  dsimp only
  conv => whnf
  by_cases hlt : i < bs.length
  · obtain ⟨ad, rfl, hc⟩ := rowB_at (hrow.up stays_Blk hB) i hlt
    have hrg := hr _ (mem_getB hlt)
    have htk := keyB_take hlt
    have hkl := keyB_len (bs.take i)
    have htl : (bs.take i).length = i := by simp; omega
    generalize keyB (bs.take i) = pre at hI htk hkl
    (repeat' (first | (refine wl_Xn tabOk 82 2 rfl rfl rfl rfl rfl rfl rfl (by omega) (run_l tabOk ?_); conv => whnf) | (refine wl_La tabOk hc rfl rfl rfl rfl rfl rfl (run_l tabOk ?_); conv => whnf) | (refine wl_add rfl rfl rfl rfl rfl rfl (by omega) (by omega) (run_l tabOk ?_); conv => whnf) | (refine wl_sub rfl rfl rfl rfl rfl rfl (by omega) (by omega) (run_l tabOk ?_); conv => whnf) | (refine wl_cvA tabOk rfl rfl rfl (by simp only [inK]; omega) rfl rfl rfl (run_l tabOk ?_); conv => whnf) | (refine wl_cvB tabOk rfl rfl rfl rfl rfl rfl (run_l tabOk ?_); conv => whnf) | (refine wl_rem rfl rfl rfl rfl rfl rfl (by omega) (by omega) (fun r hr hr0 hr1 hr2 => run_l tabOk ?_); conv => whnf) | (refine wl_quo rfl rfl rfl rfl rfl rfl (by omega) (by omega) (by simp only [inK]; omega) (run_l tabOk ?_); conv => whnf) | (refine wl_mul rfl rfl rfl rfl rfl rfl (by omega) (by omega) (run_l tabOk ?_); conv => whnf) | (refine gs_dt (by first | assumption | omega) ?_; conv => whnf) | (refine gs_df (by first | assumption | omega) ?_; conv => whnf) | (refine gs_t (by assumption) ?_; conv => whnf) | (refine gs_f (by assumption) ?_; conv => whnf) | (refine gs_d (fun hg => ?_) (fun hg => ?_) <;> conv => whnf) | (refine gs_n (fun hg => ?_) (fun hg => ?_) <;> conv => whnf) | (refine gs_nb (fun hg => ?_) (fun hg => ?_) <;> conv => whnf) | (refine gs_b (fun hg => ?_) (fun hg => ?_) <;> conv => whnf) | refine fin1 rfl rfl ?_))
    refine wl_alloc tabOk rfl rfl rfl rfl rfl rfl ?_
    intro g5 w2 hn2
    refine run_l tabOk ?_
    conv => whnf
    refine wl_Sa tabOk hn2.blk rfl rfl rfl rfl rfl (by simp [Value.oneCell']) rfl rfl ?_
    intro w3 hp3
    have hB2 : Below wr.heap.size wr w3 := hp3.below hn2.below (by have := hn2.at_; omega) (by have := hn2.size; omega)
    have hb5 : w3.heap[g5]? = some (.cells #[.int .i64 bs[i]!.a, .int .u64 (bs[i]!.w : Int)] 82 (0, 0)) := hp3.blk
    have hB02 := bup hB hB2
    have hI3 := hI.kept (grown_of (row := none) hB2) (Classical.em _)
    have hn5 : ∀ k, (Value.slice D pre.length dc).ownBlock = some k → k ≠ g5 := fun k e => by have := (hI.lt k e).2; have := hn2.at_; omega
    refine run_l tabOk ?_
    conv => whnf
    (repeat' (first | (refine wl_add rfl rfl rfl rfl rfl rfl (by omega) (by omega) (run_l tabOk ?_); conv => whnf) | (refine wl_sub rfl rfl rfl rfl rfl rfl (by omega) (by omega) (run_l tabOk ?_); conv => whnf) | (refine wl_cvA tabOk rfl rfl rfl (by simp only [inK]; omega) rfl rfl rfl (run_l tabOk ?_); conv => whnf) | (refine wl_cvB tabOk rfl rfl rfl rfl rfl rfl (run_l tabOk ?_); conv => whnf) | (refine wl_rem rfl rfl rfl rfl rfl rfl (by omega) (by omega) (fun r hr hr0 hr1 hr2 => run_l tabOk ?_); conv => whnf) | (refine wl_quo rfl rfl rfl rfl rfl rfl (by omega) (by omega) (by simp only [inK]; omega) (run_l tabOk ?_); conv => whnf) | (refine wl_mul rfl rfl rfl rfl rfl rfl (by omega) (by omega) (run_l tabOk ?_); conv => whnf) | (refine gs_dt (by first | assumption | omega) ?_; conv => whnf) | (refine gs_df (by first | assumption | omega) ?_; conv => whnf) | (refine gs_t (by assumption) ?_; conv => whnf) | (refine gs_f (by assumption) ?_; conv => whnf) | (refine gs_d (fun hg => ?_) (fun hg => ?_) <;> conv => whnf) | (refine gs_n (fun hg => ?_) (fun hg => ?_) <;> conv => whnf) | (refine gs_nb (fun hg => ?_) (fun hg => ?_) <;> conv => whnf) | (refine gs_b (fun hg => ?_) (fun hg => ?_) <;> conv => whnf) | refine fin1 rfl rfl ?_))
    clear hp3 hn2 hI
    refine lp_loop tabOk (X := Option Addr × Nat × Nat) (fun x => [(3, .slice x.1 (pre ++ (List.range x.2.2).map (fun j => bs[i]!.a.toNat / 2 ^ (8 * j) % 256)).length x.2.1), (5, .pointer (some ⟨g5, 0, none⟩)), (9, .slice (some ad) bs.length c), (10, .int .i64 bs.length), (11, .int .i64 i), (15, .int .i64 x.2.2)])
      (fun x wk => x.2.2 ≤ 4 ∧ wk.ownsRow w1.heap.size 5 1 (.slice x.1 (pre ++ (List.range x.2.2).map (fun j => bs[i]!.a.toNat / 2 ^ (8 * j) % 256)).length x.2.1) (pre ++ (List.range x.2.2).map (fun j => bs[i]!.a.toNat / 2 ^ (8 * j) % 256)).length ((pre ++ (List.range x.2.2).map (fun j => bs[i]!.a.toNat / 2 ^ (8 * j) % 256)).map byV) ∧ Below w1.heap.size w1 wk ∧ wk.heap[g5]? = some (.cells #[.int .i64 bs[i]!.a, .int .u64 (bs[i]!.w : Int)] 82 (0, 0)) ∧ (∀ k, (Value.slice x.1 (pre ++ (List.range x.2.2).map (fun j => bs[i]!.a.toNat / 2 ^ (8 * j) % 256)).length x.2.1).ownBlock = some k → k ≠ g5))
      (fun x => 4 - x.2.2) (D, dc, 0) ⟨?_, rfl, rfl, rfl, rfl, rfl, trivial⟩ ⟨by simp, by simpa using hI3, hB02, hb5, by simpa using hn5⟩ ?_
    · exact congrArg (fun z => Value.slice D z dc) (by simp : pre.length = (pre ++ (List.range 0).map (fun j => bs[i]!.a.toNat / 2 ^ (8 * j) % 256)).length)
    clear hb5 hI3 hB02 hn5
    intro ⟨E, ec, j⟩ G2 wk ⟨hj, hI, hBk, hb5, hg5⟩
    simp only at hj hI hg5
    dsimp only
    conv => whnf
    by_cases hj4 : j < 4
    · have hnx := map_range_next (fun j => bs[i]!.a.toNat / 2 ^ (8 * j) % 256) pre j
      have hplen : (pre ++ (List.range j).map (fun j => bs[i]!.a.toNat / 2 ^ (8 * j) % 256)).length = pre.length + j := by simp
      generalize pre ++ (List.range j).map (fun j => bs[i]!.a.toNat / 2 ^ (8 * j) % 256) = pj at hI hnx hplen hg5
      obtain ⟨bt, hbt⟩ : ∃ bt, bt = bs[i]!.a.toNat / 2 ^ (8 * j) % 256 := ⟨_, rfl⟩
      have hu8 := u8_shr_i bs[i]!.a j hrg (by omega)
      rw [← hbt] at hu8
      (repeat' (first | (refine wl_Lg tabOk hb5 rfl rfl rfl rfl rfl rfl rfl (run_l tabOk ?_); conv => whnf) | (refine wl_add rfl rfl rfl rfl rfl rfl (by omega) (by omega) (run_l tabOk ?_); conv => whnf) | (refine wl_sub rfl rfl rfl rfl rfl rfl (by omega) (by omega) (run_l tabOk ?_); conv => whnf) | (refine wl_cvA tabOk rfl rfl rfl (by simp only [inK]; omega) rfl rfl rfl (run_l tabOk ?_); conv => whnf) | (refine wl_cvB tabOk rfl rfl rfl rfl rfl rfl (run_l tabOk ?_); conv => whnf) | (refine wl_rem rfl rfl rfl rfl rfl rfl (by omega) (by omega) (fun r hr hr0 hr1 hr2 => run_l tabOk ?_); conv => whnf) | (refine wl_quo rfl rfl rfl rfl rfl rfl (by omega) (by omega) (by simp only [inK]; omega) (run_l tabOk ?_); conv => whnf) | (refine wl_mul rfl rfl rfl rfl rfl rfl (by omega) (by omega) (run_l tabOk ?_); conv => whnf) | (refine gs_dt (by first | assumption | omega) ?_; conv => whnf) | (refine gs_df (by first | assumption | omega) ?_; conv => whnf) | (refine gs_t (by assumption) ?_; conv => whnf) | (refine gs_f (by assumption) ?_; conv => whnf) | (refine gs_d (fun hg => ?_) (fun hg => ?_) <;> conv => whnf) | (refine gs_n (fun hg => ?_) (fun hg => ?_) <;> conv => whnf) | (refine gs_nb (fun hg => ?_) (fun hg => ?_) <;> conv => whnf) | (refine gs_b (fun hg => ?_) (fun hg => ?_) <;> conv => whnf) | refine fin1 rfl rfl ?_))
      refine wl_shr (r := bs[i]!.a / 2 ^ min (8 * (j : Int)).toNat IntKind.i64.bits) rfl rfl rfl rfl (by omega) rfl rfl rfl (run_l tabOk ?_); conv => whnf
      refine wl_cvB tabOk rfl rfl rfl rfl rfl rfl ?_
      rw [hu8]
      refine run_l tabOk ?_
      conv => whnf
      refine wl_bs tabOk 5 1 rfl rfl rfl rfl rfl rfl rfl rfl rfl rfl ?_
      intro g8 u1 hn8
      refine run_l tabOk ?_
      conv => whnf
      have hIu := hI.kept (grown_of (row := none) hn8.below) (Classical.em _)
      have hks := hBk.size
      refine wl_ap tabOk 5 1 1 hIu hn8.blk rfl rfl rfl rfl rfl rfl rfl rfl rfl rfl rfl rfl (by simp [Value.oneCell']) (by omega) (by omega) (by have := hn8.size; omega) ?_
      intro A7 cap7 u2 hown hgr hob
      have hpush := own_pushV (x := bt) hown
      have hgk : wk.grownBy u2 (Value.slice E pj.length ec).ownBlock := grown_trans (grown_of hn8.below) hgr
      have hBu : Below w1.heap.size w1 u2 := hBk.grown hgk hks (fun k e => (hI.lt k e).1)
      have hb5u := (hgk.block g5 (blk_lt hb5) (fun e => hg5 g5 e.symm rfl)).trans hb5
      have hg5u : ∀ k, (Value.slice A7 (pj.length + 1) cap7).ownBlock = some k → k ≠ g5 := fun k e => by
        rcases hob with h1 | h1
        · exact hg5 k (h1.symm.trans e)
        · rw [e] at h1
          have := blk_lt hb5
          have := hn8.size
          cases h1
          omega
      have el : pj.length + 1 = (pj ++ [bt]).length := by simp
      rw [el] at hg5u
      refine run_l tabOk ?_
      conv => whnf
      rw [el]
      (repeat' (first | (refine wl_add rfl rfl rfl rfl rfl rfl (by omega) (by omega) (run_l tabOk ?_); conv => whnf) | (refine wl_sub rfl rfl rfl rfl rfl rfl (by omega) (by omega) (run_l tabOk ?_); conv => whnf) | (refine wl_cvA tabOk rfl rfl rfl (by simp only [inK]; omega) rfl rfl rfl (run_l tabOk ?_); conv => whnf) | (refine wl_cvB tabOk rfl rfl rfl rfl rfl rfl (run_l tabOk ?_); conv => whnf) | (refine wl_rem rfl rfl rfl rfl rfl rfl (by omega) (by omega) (fun r hr hr0 hr1 hr2 => run_l tabOk ?_); conv => whnf) | (refine wl_quo rfl rfl rfl rfl rfl rfl (by omega) (by omega) (by simp only [inK]; omega) (run_l tabOk ?_); conv => whnf) | (refine wl_mul rfl rfl rfl rfl rfl rfl (by omega) (by omega) (run_l tabOk ?_); conv => whnf) | (refine gs_dt (by first | assumption | omega) ?_; conv => whnf) | (refine gs_df (by first | assumption | omega) ?_; conv => whnf) | (refine gs_t (by assumption) ?_; conv => whnf) | (refine gs_f (by assumption) ?_; conv => whnf) | (refine gs_d (fun hg => ?_) (fun hg => ?_) <;> conv => whnf) | (refine gs_n (fun hg => ?_) (fun hg => ?_) <;> conv => whnf) | (refine gs_nb (fun hg => ?_) (fun hg => ?_) <;> conv => whnf) | (refine gs_b (fun hg => ?_) (fun hg => ?_) <;> conv => whnf) | refine fin1 rfl rfl ?_))
      rw [hbt] at hpush hg5u ⊢
      rw [← hnx] at hpush hg5u ⊢
      exact ⟨(A7, cap7, j + 1), ⟨rfl, rfl, rfl, rfl, rfl, rfl, trivial⟩, ⟨by simp only; omega, hpush, hBu, hb5u, hg5u⟩, by simp only; omega⟩
    · have e4 : j = 4 := by omega
      (repeat' (first | (refine wl_add rfl rfl rfl rfl rfl rfl (by omega) (by omega) (run_l tabOk ?_); conv => whnf) | (refine wl_sub rfl rfl rfl rfl rfl rfl (by omega) (by omega) (run_l tabOk ?_); conv => whnf) | (refine wl_cvA tabOk rfl rfl rfl (by simp only [inK]; omega) rfl rfl rfl (run_l tabOk ?_); conv => whnf) | (refine wl_cvB tabOk rfl rfl rfl rfl rfl rfl (run_l tabOk ?_); conv => whnf) | (refine wl_rem rfl rfl rfl rfl rfl rfl (by omega) (by omega) (fun r hr hr0 hr1 hr2 => run_l tabOk ?_); conv => whnf) | (refine wl_quo rfl rfl rfl rfl rfl rfl (by omega) (by omega) (by simp only [inK]; omega) (run_l tabOk ?_); conv => whnf) | (refine wl_mul rfl rfl rfl rfl rfl rfl (by omega) (by omega) (run_l tabOk ?_); conv => whnf) | (refine gs_dt (by first | assumption | omega) ?_; conv => whnf) | (refine gs_df (by first | assumption | omega) ?_; conv => whnf) | (refine gs_t (by assumption) ?_; conv => whnf) | (refine gs_f (by assumption) ?_; conv => whnf) | (refine gs_d (fun hg => ?_) (fun hg => ?_) <;> conv => whnf) | (refine gs_n (fun hg => ?_) (fun hg => ?_) <;> conv => whnf) | (refine gs_nb (fun hg => ?_) (fun hg => ?_) <;> conv => whnf) | (refine gs_b (fun hg => ?_) (fun hg => ?_) <;> conv => whnf) | refine fin1 rfl rfl ?_))
      subst e4
      obtain ⟨pre2, hpre2⟩ : ∃ p2, p2 = pre ++ (List.range 4).map (fun j => bs[i]!.a.toNat / 2 ^ (8 * j) % 256) := ⟨_, rfl⟩
      have hp2l : pre2.length = pre.length + 4 := by rw [hpre2]; simp
      rw [← hpre2] at hI hg5 ⊢
      refine lp_loop tabOk (X := Option Addr × Nat × Nat) (fun x => [(3, .slice x.1 (pre2 ++ (List.range x.2.2).map (fun j => bs[i]!.w / 2 ^ (8 * j) % 256)).length x.2.1), (5, .pointer (some ⟨g5, 0, none⟩)), (9, .slice (some ad) bs.length c), (10, .int .i64 bs.length), (11, .int .i64 i), (28, .int .i64 x.2.2)])
        (fun x wk => x.2.2 ≤ 8 ∧ wk.ownsRow w1.heap.size 5 1 (.slice x.1 (pre2 ++ (List.range x.2.2).map (fun j => bs[i]!.w / 2 ^ (8 * j) % 256)).length x.2.1) (pre2 ++ (List.range x.2.2).map (fun j => bs[i]!.w / 2 ^ (8 * j) % 256)).length ((pre2 ++ (List.range x.2.2).map (fun j => bs[i]!.w / 2 ^ (8 * j) % 256)).map byV) ∧ Below w1.heap.size w1 wk ∧ wk.heap[g5]? = some (.cells #[.int .i64 bs[i]!.a, .int .u64 (bs[i]!.w : Int)] 82 (0, 0)) ∧ (∀ k, (Value.slice x.1 (pre2 ++ (List.range x.2.2).map (fun j => bs[i]!.w / 2 ^ (8 * j) % 256)).length x.2.1).ownBlock = some k → k ≠ g5))
        (fun x => 8 - x.2.2) (E, ec, 0) ⟨?_, rfl, rfl, rfl, rfl, rfl, trivial⟩ ⟨by simp, by simpa using hI, hBk, hb5, by simpa using hg5⟩ ?_
      · exact congrArg (fun z => Value.slice E z ec) (by simp : pre2.length = (pre2 ++ (List.range 0).map (fun j => bs[i]!.w / 2 ^ (8 * j) % 256)).length)
      clear hb5 hI hBk hg5
      intro ⟨E, ec, j⟩ G2 wk ⟨hj, hI, hBk, hb5, hg5⟩
      simp only at hj hI hg5
      dsimp only
      conv => whnf
      by_cases hj4 : j < 8
      · have hnx := map_range_next (fun j => bs[i]!.w / 2 ^ (8 * j) % 256) pre2 j
        have hplen : (pre2 ++ (List.range j).map (fun j => bs[i]!.w / 2 ^ (8 * j) % 256)).length = pre2.length + j := by simp
        generalize pre2 ++ (List.range j).map (fun j => bs[i]!.w / 2 ^ (8 * j) % 256) = pj at hI hnx hplen hg5
        obtain ⟨bt, hbt⟩ : ∃ bt, bt = bs[i]!.w / 2 ^ (8 * j) % 256 := ⟨_, rfl⟩
        have hu8 := u8_shr_u bs[i]!.w j (by omega)
        rw [← hbt] at hu8
        (repeat' (first | (refine wl_Lg tabOk hb5 rfl rfl rfl rfl rfl rfl rfl (run_l tabOk ?_); conv => whnf) | (refine wl_add rfl rfl rfl rfl rfl rfl (by omega) (by omega) (run_l tabOk ?_); conv => whnf) | (refine wl_sub rfl rfl rfl rfl rfl rfl (by omega) (by omega) (run_l tabOk ?_); conv => whnf) | (refine wl_cvA tabOk rfl rfl rfl (by simp only [inK]; omega) rfl rfl rfl (run_l tabOk ?_); conv => whnf) | (refine wl_cvB tabOk rfl rfl rfl rfl rfl rfl (run_l tabOk ?_); conv => whnf) | (refine wl_rem rfl rfl rfl rfl rfl rfl (by omega) (by omega) (fun r hr hr0 hr1 hr2 => run_l tabOk ?_); conv => whnf) | (refine wl_quo rfl rfl rfl rfl rfl rfl (by omega) (by omega) (by simp only [inK]; omega) (run_l tabOk ?_); conv => whnf) | (refine wl_mul rfl rfl rfl rfl rfl rfl (by omega) (by omega) (run_l tabOk ?_); conv => whnf) | (refine gs_dt (by first | assumption | omega) ?_; conv => whnf) | (refine gs_df (by first | assumption | omega) ?_; conv => whnf) | (refine gs_t (by assumption) ?_; conv => whnf) | (refine gs_f (by assumption) ?_; conv => whnf) | (refine gs_d (fun hg => ?_) (fun hg => ?_) <;> conv => whnf) | (refine gs_n (fun hg => ?_) (fun hg => ?_) <;> conv => whnf) | (refine gs_nb (fun hg => ?_) (fun hg => ?_) <;> conv => whnf) | (refine gs_b (fun hg => ?_) (fun hg => ?_) <;> conv => whnf) | refine fin1 rfl rfl ?_))
        refine wl_shr (r := (bs[i]!.w : Int) / 2 ^ min (8 * (j : Int)).toNat IntKind.u64.bits) rfl rfl rfl rfl (by omega) rfl rfl rfl (run_l tabOk ?_); conv => whnf
        refine wl_cvB tabOk rfl rfl rfl rfl rfl rfl ?_
        rw [hu8]
        refine run_l tabOk ?_
        conv => whnf
        refine wl_bs tabOk 5 1 rfl rfl rfl rfl rfl rfl rfl rfl rfl rfl ?_
        intro g8 u1 hn8
        refine run_l tabOk ?_
        conv => whnf
        have hIu := hI.kept (grown_of (row := none) hn8.below) (Classical.em _)
        have hks := hBk.size
        refine wl_ap tabOk 5 1 1 hIu hn8.blk rfl rfl rfl rfl rfl rfl rfl rfl rfl rfl rfl rfl (by simp [Value.oneCell']) (by omega) (by omega) (by have := hn8.size; omega) ?_
        intro A7 cap7 u2 hown hgr hob
        have hpush := own_pushV (x := bt) hown
        have hgk : wk.grownBy u2 (Value.slice E pj.length ec).ownBlock := grown_trans (grown_of hn8.below) hgr
        have hBu : Below w1.heap.size w1 u2 := hBk.grown hgk hks (fun k e => (hI.lt k e).1)
        have hb5u := (hgk.block g5 (blk_lt hb5) (fun e => hg5 g5 e.symm rfl)).trans hb5
        have hg5u : ∀ k, (Value.slice A7 (pj.length + 1) cap7).ownBlock = some k → k ≠ g5 := fun k e => by
          rcases hob with h1 | h1
          · exact hg5 k (h1.symm.trans e)
          · rw [e] at h1
            have := blk_lt hb5
            have := hn8.size
            cases h1
            omega
        have el : pj.length + 1 = (pj ++ [bt]).length := by simp
        rw [el] at hg5u
        refine run_l tabOk ?_
        conv => whnf
        rw [el]
        (repeat' (first | (refine wl_add rfl rfl rfl rfl rfl rfl (by omega) (by omega) (run_l tabOk ?_); conv => whnf) | (refine wl_sub rfl rfl rfl rfl rfl rfl (by omega) (by omega) (run_l tabOk ?_); conv => whnf) | (refine wl_cvA tabOk rfl rfl rfl (by simp only [inK]; omega) rfl rfl rfl (run_l tabOk ?_); conv => whnf) | (refine wl_cvB tabOk rfl rfl rfl rfl rfl rfl (run_l tabOk ?_); conv => whnf) | (refine wl_rem rfl rfl rfl rfl rfl rfl (by omega) (by omega) (fun r hr hr0 hr1 hr2 => run_l tabOk ?_); conv => whnf) | (refine wl_quo rfl rfl rfl rfl rfl rfl (by omega) (by omega) (by simp only [inK]; omega) (run_l tabOk ?_); conv => whnf) | (refine wl_mul rfl rfl rfl rfl rfl rfl (by omega) (by omega) (run_l tabOk ?_); conv => whnf) | (refine gs_dt (by first | assumption | omega) ?_; conv => whnf) | (refine gs_df (by first | assumption | omega) ?_; conv => whnf) | (refine gs_t (by assumption) ?_; conv => whnf) | (refine gs_f (by assumption) ?_; conv => whnf) | (refine gs_d (fun hg => ?_) (fun hg => ?_) <;> conv => whnf) | (refine gs_n (fun hg => ?_) (fun hg => ?_) <;> conv => whnf) | (refine gs_nb (fun hg => ?_) (fun hg => ?_) <;> conv => whnf) | (refine gs_b (fun hg => ?_) (fun hg => ?_) <;> conv => whnf) | refine fin1 rfl rfl ?_))
        rw [hbt] at hpush hg5u ⊢
        rw [← hnx] at hpush hg5u ⊢
        exact ⟨(A7, cap7, j + 1), ⟨rfl, rfl, rfl, rfl, rfl, rfl, trivial⟩, ⟨by simp only; omega, hpush, hBu, hb5u, hg5u⟩, by simp only; omega⟩
      · have e8 : j = 8 := by omega
        (repeat' (first | (refine wl_add rfl rfl rfl rfl rfl rfl (by omega) (by omega) (run_l tabOk ?_); conv => whnf) | (refine wl_sub rfl rfl rfl rfl rfl rfl (by omega) (by omega) (run_l tabOk ?_); conv => whnf) | (refine wl_cvA tabOk rfl rfl rfl (by simp only [inK]; omega) rfl rfl rfl (run_l tabOk ?_); conv => whnf) | (refine wl_cvB tabOk rfl rfl rfl rfl rfl rfl (run_l tabOk ?_); conv => whnf) | (refine wl_rem rfl rfl rfl rfl rfl rfl (by omega) (by omega) (fun r hr hr0 hr1 hr2 => run_l tabOk ?_); conv => whnf) | (refine wl_quo rfl rfl rfl rfl rfl rfl (by omega) (by omega) (by simp only [inK]; omega) (run_l tabOk ?_); conv => whnf) | (refine wl_mul rfl rfl rfl rfl rfl rfl (by omega) (by omega) (run_l tabOk ?_); conv => whnf) | (refine gs_dt (by first | assumption | omega) ?_; conv => whnf) | (refine gs_df (by first | assumption | omega) ?_; conv => whnf) | (refine gs_t (by assumption) ?_; conv => whnf) | (refine gs_f (by assumption) ?_; conv => whnf) | (refine gs_d (fun hg => ?_) (fun hg => ?_) <;> conv => whnf) | (refine gs_n (fun hg => ?_) (fun hg => ?_) <;> conv => whnf) | (refine gs_nb (fun hg => ?_) (fun hg => ?_) <;> conv => whnf) | (refine gs_b (fun hg => ?_) (fun hg => ?_) <;> conv => whnf) | refine fin1 rfl rfl ?_))
        subst e8
        have hfin : pre2 ++ (List.range 8).map (fun j => bs[i]!.w / 2 ^ (8 * j) % 256) = keyB (bs.take (i + 1)) := by
          rw [htk, hpre2]
          simp [keyOf, List.append_assoc]
        rw [hfin] at hI ⊢
        exact ⟨(i + 1, E, ec), ⟨rfl, rfl, rfl, rfl, trivial⟩, ⟨by simp only; omega, hI, hBk⟩, by simp only; omega⟩
  · (repeat' (first | (refine wl_add rfl rfl rfl rfl rfl rfl (by omega) (by omega) (run_l tabOk ?_); conv => whnf) | (refine wl_sub rfl rfl rfl rfl rfl rfl (by omega) (by omega) (run_l tabOk ?_); conv => whnf) | (refine wl_cvA tabOk rfl rfl rfl (by simp only [inK]; omega) rfl rfl rfl (run_l tabOk ?_); conv => whnf) | (refine wl_cvB tabOk rfl rfl rfl rfl rfl rfl (run_l tabOk ?_); conv => whnf) | (refine wl_rem rfl rfl rfl rfl rfl rfl (by omega) (by omega) (fun r hr hr0 hr1 hr2 => run_l tabOk ?_); conv => whnf) | (refine wl_quo rfl rfl rfl rfl rfl rfl (by omega) (by omega) (by simp only [inK]; omega) (run_l tabOk ?_); conv => whnf) | (refine wl_mul rfl rfl rfl rfl rfl rfl (by omega) (by omega) (run_l tabOk ?_); conv => whnf) | (refine gs_dt (by first | assumption | omega) ?_; conv => whnf) | (refine gs_df (by first | assumption | omega) ?_; conv => whnf) | (refine gs_t (by assumption) ?_; conv => whnf) | (refine gs_f (by assumption) ?_; conv => whnf) | (refine gs_d (fun hg => ?_) (fun hg => ?_) <;> conv => whnf) | (refine gs_n (fun hg => ?_) (fun hg => ?_) <;> conv => whnf) | (refine gs_nb (fun hg => ?_) (fun hg => ?_) <;> conv => whnf) | (refine gs_b (fun hg => ?_) (fun hg => ?_) <;> conv => whnf) | refine fin1 rfl rfl ?_))
    have : bs.take i = bs := List.take_of_length_le (by omega)
    rw [this] at hI ⊢
    refine wl_str rfl rfl Try.underlying91 Try.underlying5 Try.underlying9 hI rfl rfl rfl (run_l tabOk ?_); conv => whnf
    (repeat' (first | (refine wl_add rfl rfl rfl rfl rfl rfl (by omega) (by omega) (run_l tabOk ?_); conv => whnf) | (refine wl_sub rfl rfl rfl rfl rfl rfl (by omega) (by omega) (run_l tabOk ?_); conv => whnf) | (refine wl_cvA tabOk rfl rfl rfl (by simp only [inK]; omega) rfl rfl rfl (run_l tabOk ?_); conv => whnf) | (refine wl_cvB tabOk rfl rfl rfl rfl rfl rfl (run_l tabOk ?_); conv => whnf) | (refine wl_rem rfl rfl rfl rfl rfl rfl (by omega) (by omega) (fun r hr hr0 hr1 hr2 => run_l tabOk ?_); conv => whnf) | (refine wl_quo rfl rfl rfl rfl rfl rfl (by omega) (by omega) (by simp only [inK]; omega) (run_l tabOk ?_); conv => whnf) | (refine wl_mul rfl rfl rfl rfl rfl rfl (by omega) (by omega) (run_l tabOk ?_); conv => whnf) | (refine gs_dt (by first | assumption | omega) ?_; conv => whnf) | (refine gs_df (by first | assumption | omega) ?_; conv => whnf) | (refine gs_t (by assumption) ?_; conv => whnf) | (refine gs_f (by assumption) ?_; conv => whnf) | (refine gs_d (fun hg => ?_) (fun hg => ?_) <;> conv => whnf) | (refine gs_n (fun hg => ?_) (fun hg => ?_) <;> conv => whnf) | (refine gs_nb (fun hg => ?_) (fun hg => ?_) <;> conv => whnf) | (refine gs_b (fun hg => ?_) (fun hg => ?_) <;> conv => whnf) | refine fin1 rfl rfl ?_))
    exact ⟨rfl, bup hB1 hB⟩
theorem pKey {base g : Nat} {w : World} {bs : List Blk} {fp : List Nat} (hP : PSet base g w bs fp) (hl : bs.length ≤ 1099511627776) :
    Calls Try.prog 32 #[.pointer (some ⟨g, 0, none⟩)] w fun e w' => e = .returned (.string (strB (keyB bs))) ∧ Below w.heap.size w w' := by
  obtain ⟨V, hb, ho, hfp, hne⟩ := hP.ex
  obtain ⟨A, c, rfl, hlc, hrow⟩ := ho.row
  refine pKeyL bs A c (some ⟨g, 0, none⟩) w (fun b hb => (hP.wf.rng b hb).1) hl ((pList hP).mono fun e w' ⟨A', c', he, hb', _, hr', hB⟩ => ?_)
  rw [hb] at hb'
  simp only [Option.some.injEq, Obj.cells.injEq, and_true, Array.mk.injEq, List.cons.injEq, Value.slice.injEq, true_and] at hb'
  obtain ⟨rfl, rfl⟩ := hb'
  exact ⟨he, hB, hr'.up stays_Blk hB⟩
end Go.Proofs.Ytjggjhgbobmkhaa
