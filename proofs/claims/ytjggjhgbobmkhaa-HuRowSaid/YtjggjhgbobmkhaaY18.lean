/- Several texts of one claim in one file: Y03 HL18 HA18 SB12. -/
import Derived.Test.YtjggjhgbobmkhaaY15
import Derived.Laws.BytesString
import Derived.Laws.StructEq
import Derived.Test.YtjggjhgbobmkhaaY17
import Derived.Test.YtjggjhgbobmkhaaY13
import Derived.Test.YtjggjhgbobmkhaaY12
import Derived.Test.YtjggjhgbobmkhaaY6
/- pile: Key. -/
namespace Go.Proofs.Ytjggjhgbobmkhaa
open Go.RowKit
set_option linter.unusedVariables false
set_option linter.unusedSimpArgs false
set_option linter.unnecessarySimpa false
set_option maxRecDepth 100000
def byV (n : Nat) : Value := .int .u8 (n : Int)
def strB (l : List Nat) : ByteArray := (l.map fun (n : Nat) => (n : Int)).foldl (fun r n => r.push (UInt8.ofNat n.toNat)) ByteArray.empty
theorem foldB (l : List Nat) : ∀ r : ByteArray, ((l.map fun (n : Nat) => (n : Int)).foldl (fun r n => r.push (UInt8.ofNat n.toNat)) r).data.toList = r.data.toList ++ l.map UInt8.ofNat := by
  induction l with
  | nil => intro r; simp
  | cons a l ih =>
    intro r
    simp only [List.map_cons, List.foldl_cons]
    rw [ih]
    simp [ByteArray.push]
theorem strB_inj {x y : List Nat} (hx : ∀ n ∈ x, n < 256) (hy : ∀ n ∈ y, n < 256) (h : strB x = strB y) : x = y := by
  have h1 := congrArg (fun b : ByteArray => b.data.toList) h
  simp only [strB, foldB] at h1
  have h2 : x.map UInt8.ofNat = y.map UInt8.ofNat := by simpa using h1
  have back : ∀ l : List Nat, (∀ n ∈ l, n < 256) → (l.map UInt8.ofNat).map UInt8.toNat = l := fun l hl => by
    rw [List.map_map]
    conv => rhs; rw [← List.map_id l]
    refine List.map_congr_left fun n hn => ?_
    simp [Nat.mod_eq_of_lt (hl n hn)]
  rw [← back x hx, ← back y hy, h2]
theorem keyB_lt {bs : List Blk} : ∀ n ∈ keyB bs, n < 256 := by
  intro n hn
  obtain ⟨b, _, hb⟩ := List.mem_flatMap.1 hn
  rcases List.mem_append.1 hb with h | h
  · obtain ⟨i, _, rfl⟩ := List.mem_map.1 h; exact Nat.mod_lt _ (by omega)
  · obtain ⟨i, _, rfl⟩ := List.mem_map.1 h; exact Nat.mod_lt _ (by omega)
theorem bbeq (a b : ByteArray) : (a == b) = decide (a = b) := by
  obtain ⟨x⟩ := a
  obtain ⟨y⟩ := b
  show (x == y) = _
  rw [Bool.eq_iff_iff]
  simp
/-- Keys are one just if the sets are. -/
theorem keyS_eq {xs ys : List Blk} (hx : WFB xs) (hy : WFB ys) (h1 : ∀ b ∈ xs, b.a < 4294967296) (h2 : ∀ b ∈ ys, b.a < 4294967296) : (strB (keyB xs) == strB (keyB ys)) = decide (xs = ys) := by
  rw [bbeq, decide_eq_decide]
  constructor
  · intro h
    exact keyB_inj (fun b hb => ⟨(hx.rng b hb).1, h1 b hb, (hx.rng b hb).2.2.2⟩) (fun b hb => ⟨(hy.rng b hb).1, h2 b hb, (hy.rng b hb).2.2.2⟩) (strB_inj keyB_lt keyB_lt h)
  · intro h; rw [h]
section
variable {P : Program} {T : Nat → Option TI} {n : Nat} {Q : Post} {F : Fm} {w : World} {ops : Array Oper} {rest : List Oper} {o : Oper}
/-- string(p), p a row of bytes. -/
theorem wl_str {base : Nat} {s d9 e : TypeId} {x : Operand} {V : Value} {l : List Nat} (hop : o.op = .convert s d9 x) (hx : ev F x = V) (hs : P.underlying s = some (.slice e)) (he : P.underlying e = some (.int .u8)) (hd9 : P.underlying d9 = some .string)
    (hown : w.ownsRow base e 1 V l.length (l.map byV)) (hg : o.guard = none) {d : Nat} (hd : o.dst = some d) (hn : Nat.blt d n = true)
    (k : wl P n ops rest Q (upd F d (.string (strB l))) w) : wl P n ops (o :: rest) Q F w := by
  refine wl_val hg hd hn ?_ k
  rcases hown.2 with ⟨rfl, h0⟩ | ⟨g, cap, cur, rfl, _, hcur, hnc, _, hcs, htk⟩
  · have hl : l = [] := List.eq_nil_of_length_eq_zero h0
    subst hl
    have h1 := run_convert_bytes_string w s d9 e none 0 0 hs he hd9
    have h2 : (Conv.bytesToString (.slice none 0 0)).run P w = .ok (.string (strB [])) w := by
      unfold Conv.bytesToString
      simp [strB]
    simp [execOp, hop, hx, h1, h2]
  · have h1 := run_convert_bytes_string w s d9 e (some ⟨g, 0, none⟩) l.length cap hs he hd9
    have hl := run_loadCells_list (P := P) w ⟨g, 0, none⟩ (l.map byV) (fun j v hv => by
      rw [add_zero]
      refine cell_blk hcur ?_
      rw [← htk, List.getElem?_take] at hv
      split at hv
      · simpa using hv
      · cases hv)
    have e2 : l.map byV = (l.map fun (n : Nat) => (n : Int)).map (Value.int .u8) := by simp [byV]
    rw [List.length_map, e2] at hl
    have h2 := run_bytesToString w ⟨g, 0, none⟩ l.length cap _ hl
    have h3 : (Conv.bytesToString (.slice (some ⟨g, 0, none⟩) l.length cap)).run P w = .ok (.string (strB l)) w := h2
    simp [execOp, hop, hx, h1, h3]
end
theorem own_pushV {w : World} {base : Nat} {e : TypeId} {A : Option Addr} {c : Nat} {l : List Nat} {x : Nat} (h : w.ownsRow base e 1 (.slice A (l.length + 1) c) (l.length + 1) (l.map byV ++ [byV x])) : w.ownsRow base e 1 (.slice A (l ++ [x]).length c) (l ++ [x]).length ((l ++ [x]).map byV) := by
  have e1 : (l ++ [x]).length = l.length + 1 := by simp
  rw [e1, List.map_append]
  exact h
theorem u8_shr_i (a : Int) (j : Nat) (ha : 0 ≤ a) (hj : j < 8) : IntKind.u8.wrap (a / 2 ^ min ((8 * (j : Int))).toNat IntKind.i64.bits) = ((a.toNat / 2 ^ (8 * j) % 256 : Nat) : Int) := by
  have e : min ((8 * (j : Int))).toNat IntKind.i64.bits = 8 * j := by simp [IntKind.bits]; omega
  obtain ⟨m, rfl⟩ : ∃ m : Nat, a = m := ⟨a.toNat, by omega⟩
  rw [e]
  simp [IntKind.wrap, IntKind.signed, IntKind.bits]
theorem u8_shr_u (a : Nat) (j : Nat) (hj : j < 8) : IntKind.u8.wrap ((a : Int) / 2 ^ min ((8 * (j : Int))).toNat IntKind.u64.bits) = ((a / 2 ^ (8 * j) % 256 : Nat) : Int) := by
  have e : min ((8 * (j : Int))).toNat IntKind.u64.bits = 8 * j := by simp [IntKind.bits]; omega
  rw [e]
  simp [IntKind.wrap, IntKind.signed, IntKind.bits]
theorem map_range_next (f : Nat → Nat) (pre : List Nat) (j : Nat) : pre ++ (List.range (j + 1)).map f = (pre ++ (List.range j).map f) ++ [f j] := by
  rw [List.range_succ]; simp
theorem keyB_take {bs : List Blk} {i : Nat} (hi : i < bs.length) : keyB (bs.take (i + 1)) = keyB (bs.take i) ++ keyOf bs[i]! := by
  rw [take_nextB hi]; simp [keyB]
theorem keyB_len : ∀ bs : List Blk, (keyB bs).length = 12 * bs.length
  | [] => rfl
  | b :: bs => by
    have h : keyB (b :: bs) = keyOf b ++ keyB bs := rfl
    rw [h, List.length_append, keyOf_len, keyB_len bs, List.length_cons]
    omega
set_option maxHeartbeats 16000000 in
theorem pKeyL (bs : List Blk) (A : Option Addr) (c : Nat) (v : Option Addr) (w : World) (hr : ∀ b ∈ bs, 0 ≤ b.a) (hl : bs.length ≤ 1099511627776)
    (hlist : Calls Try.prog 47 #[.pointer v] w fun e w' => e = .returned (.slice A bs.length c) ∧ Below w.heap.size w w' ∧ RowR 2 dBlk w' A bs) :
    Calls Try.prog 32 #[.pointer v] w fun e w' => e = .returned (.string (strB (keyB bs))) ∧ Below w.heap.size w w' := by
  refine enterR (args := [.pointer v]) tabOk Try.func32 rfl Try.ntmps32 rfl ?_; conv => whnf
  (repeat' (first | (refine wl_add rfl rfl rfl rfl rfl rfl (by omega) (by omega) (run_l tabOk ?_); conv => whnf) | (refine wl_sub rfl rfl rfl rfl rfl rfl (by omega) (by omega) (run_l tabOk ?_); conv => whnf) | (refine wl_cvA tabOk rfl rfl rfl (by simp only [inK]; omega) rfl rfl rfl (run_l tabOk ?_); conv => whnf) | (refine wl_cvB tabOk rfl rfl rfl rfl rfl rfl (run_l tabOk ?_); conv => whnf) | (refine wl_rem rfl rfl rfl rfl rfl rfl (by omega) (by omega) (fun r hr hr0 hr1 hr2 => run_l tabOk ?_); conv => whnf) | (refine wl_quo rfl rfl rfl rfl rfl rfl (by omega) (by omega) (by simp only [inK]; omega) (run_l tabOk ?_); conv => whnf) | (refine wl_mul rfl rfl rfl rfl rfl rfl (by omega) (by omega) (run_l tabOk ?_); conv => whnf) | (refine gs_dt (by first | assumption | omega) ?_; conv => whnf) | (refine gs_df (by first | assumption | omega) ?_; conv => whnf) | (refine gs_t (by assumption) ?_; conv => whnf) | (refine gs_f (by assumption) ?_; conv => whnf) | (refine gs_d (fun hg => ?_) (fun hg => ?_) <;> conv => whnf) | (refine gs_n (fun hg => ?_) (fun hg => ?_) <;> conv => whnf) | (refine gs_nb (fun hg => ?_) (fun hg => ?_) <;> conv => whnf) | (refine gs_b (fun hg => ?_) (fun hg => ?_) <;> conv => whnf) | refine fin1 rfl rfl ?_))
  refine wl_C fn47 hlist rfl rfl rfl rfl rfl rfl rfl ?_
  rintro _ w1 ⟨rfl, hB1, hrow⟩
  refine ⟨_, rfl, run_l tabOk ?_⟩
  conv => whnf
  (repeat' (first | (refine wl_add rfl rfl rfl rfl rfl rfl (by omega) (by omega) (run_l tabOk ?_); conv => whnf) | (refine wl_sub rfl rfl rfl rfl rfl rfl (by omega) (by omega) (run_l tabOk ?_); conv => whnf) | (refine wl_cvA tabOk rfl rfl rfl (by simp only [inK]; omega) rfl rfl rfl (run_l tabOk ?_); conv => whnf) | (refine wl_cvB tabOk rfl rfl rfl rfl rfl rfl (run_l tabOk ?_); conv => whnf) | (refine wl_rem rfl rfl rfl rfl rfl rfl (by omega) (by omega) (fun r hr hr0 hr1 hr2 => run_l tabOk ?_); conv => whnf) | (refine wl_quo rfl rfl rfl rfl rfl rfl (by omega) (by omega) (by simp only [inK]; omega) (run_l tabOk ?_); conv => whnf) | (refine wl_mul rfl rfl rfl rfl rfl rfl (by omega) (by omega) (run_l tabOk ?_); conv => whnf) | (refine gs_dt (by first | assumption | omega) ?_; conv => whnf) | (refine gs_df (by first | assumption | omega) ?_; conv => whnf) | (refine gs_t (by assumption) ?_; conv => whnf) | (refine gs_f (by assumption) ?_; conv => whnf) | (refine gs_d (fun hg => ?_) (fun hg => ?_) <;> conv => whnf) | (refine gs_n (fun hg => ?_) (fun hg => ?_) <;> conv => whnf) | (refine gs_nb (fun hg => ?_) (fun hg => ?_) <;> conv => whnf) | (refine gs_b (fun hg => ?_) (fun hg => ?_) <;> conv => whnf) | refine fin1 rfl rfl ?_))
  refine lp_loop tabOk (X := Nat × Option Addr × Nat) (fun x => [(3, .slice x.2.1 (keyB (bs.take x.1)).length x.2.2), (9, .slice A bs.length c), (10, .int .i64 bs.length), (11, .int .i64 x.1)])
    (fun x wr => x.1 ≤ bs.length ∧ wr.ownsRow w1.heap.size 5 1 (.slice x.2.1 (keyB (bs.take x.1)).length x.2.2) (keyB (bs.take x.1)).length ((keyB (bs.take x.1)).map byV) ∧ Below w1.heap.size w1 wr) (fun x => bs.length - x.1) (0, none, 0) ⟨rfl, rfl, rfl, rfl, trivial⟩ ⟨by simp only; omega, own_nil .., Below.refl _ _⟩ ?_
  intro ⟨i, D, dc⟩ G wr ⟨hi, hI, hB⟩
  simp only at hi hI
  dsimp only
  conv => whnf
  by_cases hlt : i < bs.length
  · obtain ⟨ad, rfl, hc⟩ := rowB_at (hrow.up stays_Blk hB) i hlt
    have hrg := hr _ (mem_getB hlt)
    have htk := keyB_take hlt
    have hkl := keyB_len (bs.take i)
    have htl : (bs.take i).length = i := by simp; omega
    generalize keyB (bs.take i) = pre at hI htk hkl
    (repeat' (first | (refine wl_Xn tabOk 82 2 rfl rfl rfl rfl rfl rfl rfl (by omega) (run_l tabOk ?_); conv => whnf) | (refine wl_La tabOk hc rfl rfl rfl rfl rfl rfl (run_l tabOk ?_); conv => whnf) | (refine wl_add rfl rfl rfl rfl rfl rfl (by omega) (by omega) (run_l tabOk ?_); conv => whnf) | (refine wl_sub rfl rfl rfl rfl rfl rfl (by omega) (by omega) (run_l tabOk ?_); conv => whnf) | (refine wl_cvA tabOk rfl rfl rfl (by simp only [inK]; omega) rfl rfl rfl (run_l tabOk ?_); conv => whnf) | (refine wl_cvB tabOk rfl rfl rfl rfl rfl rfl (run_l tabOk ?_); conv => whnf) | (refine wl_rem rfl rfl rfl rfl rfl rfl (by omega) (by omega) (fun r hr hr0 hr1 hr2 => run_l tabOk ?_); conv => whnf) | (refine wl_quo rfl rfl rfl rfl rfl rfl (by omega) (by omega) (by simp only [inK]; omega) (run_l tabOk ?_); conv => whnf) | (refine wl_mul rfl rfl rfl rfl rfl rfl (by omega) (by omega) (run_l tabOk ?_); conv => whnf) | (refine gs_dt (by first | assumption | omega) ?_; conv => whnf) | (refine gs_df (by first | assumption | omega) ?_; conv => whnf) | (refine gs_t (by assumption) ?_; conv => whnf) | (refine gs_f (by assumption) ?_; conv => whnf) | (refine gs_d (fun hg => ?_) (fun hg => ?_) <;> conv => whnf) | (refine gs_n (fun hg => ?_) (fun hg => ?_) <;> conv => whnf) | (refine gs_nb (fun hg => ?_) (fun hg => ?_) <;> conv => whnf) | (refine gs_b (fun hg => ?_) (fun hg => ?_) <;> conv => whnf) | refine fin1 rfl rfl ?_))
    refine wl_alloc tabOk rfl rfl rfl rfl rfl rfl ?_
    intro g5 w2 hn2
    refine run_l tabOk ?_
    conv => whnf
    refine wl_Sa tabOk hn2.blk rfl rfl rfl rfl rfl (by simp [Value.oneCell']) rfl rfl ?_
    intro w3 hp3
    have hB2 : Below wr.heap.size wr w3 := hp3.below hn2.below (by have := hn2.at_; omega) (by have := hn2.size; omega)
    have hb5 : w3.heap[g5]? = some (.cells #[.int .i64 bs[i]!.a, .int .u64 (bs[i]!.w : Int)] 82 (0, 0)) := hp3.blk
    have hB02 := bup hB hB2
    have hI3 := hI.kept (grown_of (row := none) hB2) (Classical.em _)
    have hn5 : ∀ k, (Value.slice D pre.length dc).ownBlock = some k → k ≠ g5 := fun k e => by have := (hI.lt k e).2; have := hn2.at_; omega
    refine run_l tabOk ?_
    conv => whnf
    (repeat' (first | (refine wl_add rfl rfl rfl rfl rfl rfl (by omega) (by omega) (run_l tabOk ?_); conv => whnf) | (refine wl_sub rfl rfl rfl rfl rfl rfl (by omega) (by omega) (run_l tabOk ?_); conv => whnf) | (refine wl_cvA tabOk rfl rfl rfl (by simp only [inK]; omega) rfl rfl rfl (run_l tabOk ?_); conv => whnf) | (refine wl_cvB tabOk rfl rfl rfl rfl rfl rfl (run_l tabOk ?_); conv => whnf) | (refine wl_rem rfl rfl rfl rfl rfl rfl (by omega) (by omega) (fun r hr hr0 hr1 hr2 => run_l tabOk ?_); conv => whnf) | (refine wl_quo rfl rfl rfl rfl rfl rfl (by omega) (by omega) (by simp only [inK]; omega) (run_l tabOk ?_); conv => whnf) | (refine wl_mul rfl rfl rfl rfl rfl rfl (by omega) (by omega) (run_l tabOk ?_); conv => whnf) | (refine gs_dt (by first | assumption | omega) ?_; conv => whnf) | (refine gs_df (by first | assumption | omega) ?_; conv => whnf) | (refine gs_t (by assumption) ?_; conv => whnf) | (refine gs_f (by assumption) ?_; conv => whnf) | (refine gs_d (fun hg => ?_) (fun hg => ?_) <;> conv => whnf) | (refine gs_n (fun hg => ?_) (fun hg => ?_) <;> conv => whnf) | (refine gs_nb (fun hg => ?_) (fun hg => ?_) <;> conv => whnf) | (refine gs_b (fun hg => ?_) (fun hg => ?_) <;> conv => whnf) | refine fin1 rfl rfl ?_))
    clear hp3 hn2 hI
    refine lp_loop tabOk (X := Option Addr × Nat × Nat) (fun x => [(3, .slice x.1 (pre ++ (List.range x.2.2).map (fun j => bs[i]!.a.toNat / 2 ^ (8 * j) % 256)).length x.2.1), (5, .pointer (some ⟨g5, 0, none⟩)), (9, .slice (some ad) bs.length c), (10, .int .i64 bs.length), (11, .int .i64 i), (15, .int .i64 x.2.2)])
      (fun x wk => x.2.2 ≤ 4 ∧ wk.ownsRow w1.heap.size 5 1 (.slice x.1 (pre ++ (List.range x.2.2).map (fun j => bs[i]!.a.toNat / 2 ^ (8 * j) % 256)).length x.2.1) (pre ++ (List.range x.2.2).map (fun j => bs[i]!.a.toNat / 2 ^ (8 * j) % 256)).length ((pre ++ (List.range x.2.2).map (fun j => bs[i]!.a.toNat / 2 ^ (8 * j) % 256)).map byV) ∧ Below w1.heap.size w1 wk ∧ wk.heap[g5]? = some (.cells #[.int .i64 bs[i]!.a, .int .u64 (bs[i]!.w : Int)] 82 (0, 0)) ∧ (∀ k, (Value.slice x.1 (pre ++ (List.range x.2.2).map (fun j => bs[i]!.a.toNat / 2 ^ (8 * j) % 256)).length x.2.1).ownBlock = some k → k ≠ g5))
      (fun x => 4 - x.2.2) (D, dc, 0) ⟨?_, rfl, rfl, rfl, rfl, rfl, trivial⟩ ⟨by simp, by simpa using hI3, hB02, hb5, by simpa using hn5⟩ ?_
    · exact congrArg (fun z => Value.slice D z dc) (by simp : pre.length = (pre ++ (List.range 0).map (fun j => bs[i]!.a.toNat / 2 ^ (8 * j) % 256)).length)
    clear hb5 hI3 hB02 hn5
    intro ⟨E, ec, j⟩ G2 wk ⟨hj, hI, hBk, hb5, hg5⟩
    simp only at hj hI hg5
    dsimp only
    conv => whnf
    by_cases hj4 : j < 4
    · have hnx := map_range_next (fun j => bs[i]!.a.toNat / 2 ^ (8 * j) % 256) pre j
      have hplen : (pre ++ (List.range j).map (fun j => bs[i]!.a.toNat / 2 ^ (8 * j) % 256)).length = pre.length + j := by simp
      generalize pre ++ (List.range j).map (fun j => bs[i]!.a.toNat / 2 ^ (8 * j) % 256) = pj at hI hnx hplen hg5
      obtain ⟨bt, hbt⟩ : ∃ bt, bt = bs[i]!.a.toNat / 2 ^ (8 * j) % 256 := ⟨_, rfl⟩
      have hu8 := u8_shr_i bs[i]!.a j hrg (by omega)
      rw [← hbt] at hu8
      (repeat' (first | (refine wl_Lg tabOk hb5 rfl rfl rfl rfl rfl rfl rfl (run_l tabOk ?_); conv => whnf) | (refine wl_add rfl rfl rfl rfl rfl rfl (by omega) (by omega) (run_l tabOk ?_); conv => whnf) | (refine wl_sub rfl rfl rfl rfl rfl rfl (by omega) (by omega) (run_l tabOk ?_); conv => whnf) | (refine wl_cvA tabOk rfl rfl rfl (by simp only [inK]; omega) rfl rfl rfl (run_l tabOk ?_); conv => whnf) | (refine wl_cvB tabOk rfl rfl rfl rfl rfl rfl (run_l tabOk ?_); conv => whnf) | (refine wl_rem rfl rfl rfl rfl rfl rfl (by omega) (by omega) (fun r hr hr0 hr1 hr2 => run_l tabOk ?_); conv => whnf) | (refine wl_quo rfl rfl rfl rfl rfl rfl (by omega) (by omega) (by simp only [inK]; omega) (run_l tabOk ?_); conv => whnf) | (refine wl_mul rfl rfl rfl rfl rfl rfl (by omega) (by omega) (run_l tabOk ?_); conv => whnf) | (refine gs_dt (by first | assumption | omega) ?_; conv => whnf) | (refine gs_df (by first | assumption | omega) ?_; conv => whnf) | (refine gs_t (by assumption) ?_; conv => whnf) | (refine gs_f (by assumption) ?_; conv => whnf) | (refine gs_d (fun hg => ?_) (fun hg => ?_) <;> conv => whnf) | (refine gs_n (fun hg => ?_) (fun hg => ?_) <;> conv => whnf) | (refine gs_nb (fun hg => ?_) (fun hg => ?_) <;> conv => whnf) | (refine gs_b (fun hg => ?_) (fun hg => ?_) <;> conv => whnf) | refine fin1 rfl rfl ?_))
      refine wl_shr (r := bs[i]!.a / 2 ^ min (8 * (j : Int)).toNat IntKind.i64.bits) rfl rfl rfl rfl (by omega) rfl rfl rfl (run_l tabOk ?_); conv => whnf
      refine wl_cvB tabOk rfl rfl rfl rfl rfl rfl ?_
      rw [hu8]
      refine run_l tabOk ?_
      conv => whnf
      refine wl_bs tabOk 5 1 rfl rfl rfl rfl rfl rfl rfl rfl rfl rfl ?_
      intro g8 u1 hn8
      refine run_l tabOk ?_
      conv => whnf
      have hIu := hI.kept (grown_of (row := none) hn8.below) (Classical.em _)
      have hks := hBk.size
      refine wl_ap tabOk 5 1 1 hIu hn8.blk rfl rfl rfl rfl rfl rfl rfl rfl rfl rfl rfl rfl (by simp [Value.oneCell']) (by omega) (by omega) (by have := hn8.size; omega) ?_
      intro A7 cap7 u2 hown hgr hob
      have hpush := own_pushV (x := bt) hown
      have hgk : wk.grownBy u2 (Value.slice E pj.length ec).ownBlock := grown_trans (grown_of hn8.below) hgr
      have hBu : Below w1.heap.size w1 u2 := hBk.grown hgk hks (fun k e => (hI.lt k e).1)
      have hb5u := (hgk.block g5 (blk_lt hb5) (fun e => hg5 g5 e.symm rfl)).trans hb5
      have hg5u : ∀ k, (Value.slice A7 (pj.length + 1) cap7).ownBlock = some k → k ≠ g5 := fun k e => by
        rcases hob with h1 | h1
        · exact hg5 k (h1.symm.trans e)
        · rw [e] at h1
          have := blk_lt hb5
          have := hn8.size
          cases h1
          omega
      have el : pj.length + 1 = (pj ++ [bt]).length := by simp
      rw [el] at hg5u
      refine run_l tabOk ?_
      conv => whnf
      rw [el]
      (repeat' (first | (refine wl_add rfl rfl rfl rfl rfl rfl (by omega) (by omega) (run_l tabOk ?_); conv => whnf) | (refine wl_sub rfl rfl rfl rfl rfl rfl (by omega) (by omega) (run_l tabOk ?_); conv => whnf) | (refine wl_cvA tabOk rfl rfl rfl (by simp only [inK]; omega) rfl rfl rfl (run_l tabOk ?_); conv => whnf) | (refine wl_cvB tabOk rfl rfl rfl rfl rfl rfl (run_l tabOk ?_); conv => whnf) | (refine wl_rem rfl rfl rfl rfl rfl rfl (by omega) (by omega) (fun r hr hr0 hr1 hr2 => run_l tabOk ?_); conv => whnf) | (refine wl_quo rfl rfl rfl rfl rfl rfl (by omega) (by omega) (by simp only [inK]; omega) (run_l tabOk ?_); conv => whnf) | (refine wl_mul rfl rfl rfl rfl rfl rfl (by omega) (by omega) (run_l tabOk ?_); conv => whnf) | (refine gs_dt (by first | assumption | omega) ?_; conv => whnf) | (refine gs_df (by first | assumption | omega) ?_; conv => whnf) | (refine gs_t (by assumption) ?_; conv => whnf) | (refine gs_f (by assumption) ?_; conv => whnf) | (refine gs_d (fun hg => ?_) (fun hg => ?_) <;> conv => whnf) | (refine gs_n (fun hg => ?_) (fun hg => ?_) <;> conv => whnf) | (refine gs_nb (fun hg => ?_) (fun hg => ?_) <;> conv => whnf) | (refine gs_b (fun hg => ?_) (fun hg => ?_) <;> conv => whnf) | refine fin1 rfl rfl ?_))
      rw [hbt] at hpush hg5u ⊢
      rw [← hnx] at hpush hg5u ⊢
      exact ⟨(A7, cap7, j + 1), ⟨rfl, rfl, rfl, rfl, rfl, rfl, trivial⟩, ⟨by simp only; omega, hpush, hBu, hb5u, hg5u⟩, by simp only; omega⟩
    · have e4 : j = 4 := by omega
      (repeat' (first | (refine wl_add rfl rfl rfl rfl rfl rfl (by omega) (by omega) (run_l tabOk ?_); conv => whnf) | (refine wl_sub rfl rfl rfl rfl rfl rfl (by omega) (by omega) (run_l tabOk ?_); conv => whnf) | (refine wl_cvA tabOk rfl rfl rfl (by simp only [inK]; omega) rfl rfl rfl (run_l tabOk ?_); conv => whnf) | (refine wl_cvB tabOk rfl rfl rfl rfl rfl rfl (run_l tabOk ?_); conv => whnf) | (refine wl_rem rfl rfl rfl rfl rfl rfl (by omega) (by omega) (fun r hr hr0 hr1 hr2 => run_l tabOk ?_); conv => whnf) | (refine wl_quo rfl rfl rfl rfl rfl rfl (by omega) (by omega) (by simp only [inK]; omega) (run_l tabOk ?_); conv => whnf) | (refine wl_mul rfl rfl rfl rfl rfl rfl (by omega) (by omega) (run_l tabOk ?_); conv => whnf) | (refine gs_dt (by first | assumption | omega) ?_; conv => whnf) | (refine gs_df (by first | assumption | omega) ?_; conv => whnf) | (refine gs_t (by assumption) ?_; conv => whnf) | (refine gs_f (by assumption) ?_; conv => whnf) | (refine gs_d (fun hg => ?_) (fun hg => ?_) <;> conv => whnf) | (refine gs_n (fun hg => ?_) (fun hg => ?_) <;> conv => whnf) | (refine gs_nb (fun hg => ?_) (fun hg => ?_) <;> conv => whnf) | (refine gs_b (fun hg => ?_) (fun hg => ?_) <;> conv => whnf) | refine fin1 rfl rfl ?_))
      subst e4
      obtain ⟨pre2, hpre2⟩ : ∃ p2, p2 = pre ++ (List.range 4).map (fun j => bs[i]!.a.toNat / 2 ^ (8 * j) % 256) := ⟨_, rfl⟩
      have hp2l : pre2.length = pre.length + 4 := by rw [hpre2]; simp
      rw [← hpre2] at hI hg5 ⊢
      refine lp_loop tabOk (X := Option Addr × Nat × Nat) (fun x => [(3, .slice x.1 (pre2 ++ (List.range x.2.2).map (fun j => bs[i]!.w / 2 ^ (8 * j) % 256)).length x.2.1), (5, .pointer (some ⟨g5, 0, none⟩)), (9, .slice (some ad) bs.length c), (10, .int .i64 bs.length), (11, .int .i64 i), (28, .int .i64 x.2.2)])
        (fun x wk => x.2.2 ≤ 8 ∧ wk.ownsRow w1.heap.size 5 1 (.slice x.1 (pre2 ++ (List.range x.2.2).map (fun j => bs[i]!.w / 2 ^ (8 * j) % 256)).length x.2.1) (pre2 ++ (List.range x.2.2).map (fun j => bs[i]!.w / 2 ^ (8 * j) % 256)).length ((pre2 ++ (List.range x.2.2).map (fun j => bs[i]!.w / 2 ^ (8 * j) % 256)).map byV) ∧ Below w1.heap.size w1 wk ∧ wk.heap[g5]? = some (.cells #[.int .i64 bs[i]!.a, .int .u64 (bs[i]!.w : Int)] 82 (0, 0)) ∧ (∀ k, (Value.slice x.1 (pre2 ++ (List.range x.2.2).map (fun j => bs[i]!.w / 2 ^ (8 * j) % 256)).length x.2.1).ownBlock = some k → k ≠ g5))
        (fun x => 8 - x.2.2) (E, ec, 0) ⟨?_, rfl, rfl, rfl, rfl, rfl, trivial⟩ ⟨by simp, by simpa using hI, hBk, hb5, by simpa using hg5⟩ ?_
      · exact congrArg (fun z => Value.slice E z ec) (by simp : pre2.length = (pre2 ++ (List.range 0).map (fun j => bs[i]!.w / 2 ^ (8 * j) % 256)).length)
      clear hb5 hI hBk hg5
      intro ⟨E, ec, j⟩ G2 wk ⟨hj, hI, hBk, hb5, hg5⟩
      simp only at hj hI hg5
      dsimp only
      conv => whnf
      by_cases hj4 : j < 8
      · have hnx := map_range_next (fun j => bs[i]!.w / 2 ^ (8 * j) % 256) pre2 j
        have hplen : (pre2 ++ (List.range j).map (fun j => bs[i]!.w / 2 ^ (8 * j) % 256)).length = pre2.length + j := by simp
        generalize pre2 ++ (List.range j).map (fun j => bs[i]!.w / 2 ^ (8 * j) % 256) = pj at hI hnx hplen hg5
        obtain ⟨bt, hbt⟩ : ∃ bt, bt = bs[i]!.w / 2 ^ (8 * j) % 256 := ⟨_, rfl⟩
        have hu8 := u8_shr_u bs[i]!.w j (by omega)
        rw [← hbt] at hu8
        (repeat' (first | (refine wl_Lg tabOk hb5 rfl rfl rfl rfl rfl rfl rfl (run_l tabOk ?_); conv => whnf) | (refine wl_add rfl rfl rfl rfl rfl rfl (by omega) (by omega) (run_l tabOk ?_); conv => whnf) | (refine wl_sub rfl rfl rfl rfl rfl rfl (by omega) (by omega) (run_l tabOk ?_); conv => whnf) | (refine wl_cvA tabOk rfl rfl rfl (by simp only [inK]; omega) rfl rfl rfl (run_l tabOk ?_); conv => whnf) | (refine wl_cvB tabOk rfl rfl rfl rfl rfl rfl (run_l tabOk ?_); conv => whnf) | (refine wl_rem rfl rfl rfl rfl rfl rfl (by omega) (by omega) (fun r hr hr0 hr1 hr2 => run_l tabOk ?_); conv => whnf) | (refine wl_quo rfl rfl rfl rfl rfl rfl (by omega) (by omega) (by simp only [inK]; omega) (run_l tabOk ?_); conv => whnf) | (refine wl_mul rfl rfl rfl rfl rfl rfl (by omega) (by omega) (run_l tabOk ?_); conv => whnf) | (refine gs_dt (by first | assumption | omega) ?_; conv => whnf) | (refine gs_df (by first | assumption | omega) ?_; conv => whnf) | (refine gs_t (by assumption) ?_; conv => whnf) | (refine gs_f (by assumption) ?_; conv => whnf) | (refine gs_d (fun hg => ?_) (fun hg => ?_) <;> conv => whnf) | (refine gs_n (fun hg => ?_) (fun hg => ?_) <;> conv => whnf) | (refine gs_nb (fun hg => ?_) (fun hg => ?_) <;> conv => whnf) | (refine gs_b (fun hg => ?_) (fun hg => ?_) <;> conv => whnf) | refine fin1 rfl rfl ?_))
        refine wl_shr (r := (bs[i]!.w : Int) / 2 ^ min (8 * (j : Int)).toNat IntKind.u64.bits) rfl rfl rfl rfl (by omega) rfl rfl rfl (run_l tabOk ?_); conv => whnf
        refine wl_cvB tabOk rfl rfl rfl rfl rfl rfl ?_
        rw [hu8]
        refine run_l tabOk ?_
        conv => whnf
        refine wl_bs tabOk 5 1 rfl rfl rfl rfl rfl rfl rfl rfl rfl rfl ?_
        intro g8 u1 hn8
        refine run_l tabOk ?_
        conv => whnf
        have hIu := hI.kept (grown_of (row := none) hn8.below) (Classical.em _)
        have hks := hBk.size
        refine wl_ap tabOk 5 1 1 hIu hn8.blk rfl rfl rfl rfl rfl rfl rfl rfl rfl rfl rfl rfl (by simp [Value.oneCell']) (by omega) (by omega) (by have := hn8.size; omega) ?_
        intro A7 cap7 u2 hown hgr hob
        have hpush := own_pushV (x := bt) hown
        have hgk : wk.grownBy u2 (Value.slice E pj.length ec).ownBlock := grown_trans (grown_of hn8.below) hgr
        have hBu : Below w1.heap.size w1 u2 := hBk.grown hgk hks (fun k e => (hI.lt k e).1)
        have hb5u := (hgk.block g5 (blk_lt hb5) (fun e => hg5 g5 e.symm rfl)).trans hb5
        have hg5u : ∀ k, (Value.slice A7 (pj.length + 1) cap7).ownBlock = some k → k ≠ g5 := fun k e => by
          rcases hob with h1 | h1
          · exact hg5 k (h1.symm.trans e)
          · rw [e] at h1
            have := blk_lt hb5
            have := hn8.size
            cases h1
            omega
        have el : pj.length + 1 = (pj ++ [bt]).length := by simp
        rw [el] at hg5u
        refine run_l tabOk ?_
        conv => whnf
        rw [el]
        (repeat' (first | (refine wl_add rfl rfl rfl rfl rfl rfl (by omega) (by omega) (run_l tabOk ?_); conv => whnf) | (refine wl_sub rfl rfl rfl rfl rfl rfl (by omega) (by omega) (run_l tabOk ?_); conv => whnf) | (refine wl_cvA tabOk rfl rfl rfl (by simp only [inK]; omega) rfl rfl rfl (run_l tabOk ?_); conv => whnf) | (refine wl_cvB tabOk rfl rfl rfl rfl rfl rfl (run_l tabOk ?_); conv => whnf) | (refine wl_rem rfl rfl rfl rfl rfl rfl (by omega) (by omega) (fun r hr hr0 hr1 hr2 => run_l tabOk ?_); conv => whnf) | (refine wl_quo rfl rfl rfl rfl rfl rfl (by omega) (by omega) (by simp only [inK]; omega) (run_l tabOk ?_); conv => whnf) | (refine wl_mul rfl rfl rfl rfl rfl rfl (by omega) (by omega) (run_l tabOk ?_); conv => whnf) | (refine gs_dt (by first | assumption | omega) ?_; conv => whnf) | (refine gs_df (by first | assumption | omega) ?_; conv => whnf) | (refine gs_t (by assumption) ?_; conv => whnf) | (refine gs_f (by assumption) ?_; conv => whnf) | (refine gs_d (fun hg => ?_) (fun hg => ?_) <;> conv => whnf) | (refine gs_n (fun hg => ?_) (fun hg => ?_) <;> conv => whnf) | (refine gs_nb (fun hg => ?_) (fun hg => ?_) <;> conv => whnf) | (refine gs_b (fun hg => ?_) (fun hg => ?_) <;> conv => whnf) | refine fin1 rfl rfl ?_))
        rw [hbt] at hpush hg5u ⊢
        rw [← hnx] at hpush hg5u ⊢
        exact ⟨(A7, cap7, j + 1), ⟨rfl, rfl, rfl, rfl, rfl, rfl, trivial⟩, ⟨by simp only; omega, hpush, hBu, hb5u, hg5u⟩, by simp only; omega⟩
      · have e8 : j = 8 := by omega
        (repeat' (first | (refine wl_add rfl rfl rfl rfl rfl rfl (by omega) (by omega) (run_l tabOk ?_); conv => whnf) | (refine wl_sub rfl rfl rfl rfl rfl rfl (by omega) (by omega) (run_l tabOk ?_); conv => whnf) | (refine wl_cvA tabOk rfl rfl rfl (by simp only [inK]; omega) rfl rfl rfl (run_l tabOk ?_); conv => whnf) | (refine wl_cvB tabOk rfl rfl rfl rfl rfl rfl (run_l tabOk ?_); conv => whnf) | (refine wl_rem rfl rfl rfl rfl rfl rfl (by omega) (by omega) (fun r hr hr0 hr1 hr2 => run_l tabOk ?_); conv => whnf) | (refine wl_quo rfl rfl rfl rfl rfl rfl (by omega) (by omega) (by simp only [inK]; omega) (run_l tabOk ?_); conv => whnf) | (refine wl_mul rfl rfl rfl rfl rfl rfl (by omega) (by omega) (run_l tabOk ?_); conv => whnf) | (refine gs_dt (by first | assumption | omega) ?_; conv => whnf) | (refine gs_df (by first | assumption | omega) ?_; conv => whnf) | (refine gs_t (by assumption) ?_; conv => whnf) | (refine gs_f (by assumption) ?_; conv => whnf) | (refine gs_d (fun hg => ?_) (fun hg => ?_) <;> conv => whnf) | (refine gs_n (fun hg => ?_) (fun hg => ?_) <;> conv => whnf) | (refine gs_nb (fun hg => ?_) (fun hg => ?_) <;> conv => whnf) | (refine gs_b (fun hg => ?_) (fun hg => ?_) <;> conv => whnf) | refine fin1 rfl rfl ?_))
        subst e8
        have hfin : pre2 ++ (List.range 8).map (fun j => bs[i]!.w / 2 ^ (8 * j) % 256) = keyB (bs.take (i + 1)) := by
          rw [htk, hpre2]
          simp [keyOf, List.append_assoc]
        rw [hfin] at hI ⊢
        exact ⟨(i + 1, E, ec), ⟨rfl, rfl, rfl, rfl, trivial⟩, ⟨by simp only; omega, hI, hBk⟩, by simp only; omega⟩
  · (repeat' (first | (refine wl_add rfl rfl rfl rfl rfl rfl (by omega) (by omega) (run_l tabOk ?_); conv => whnf) | (refine wl_sub rfl rfl rfl rfl rfl rfl (by omega) (by omega) (run_l tabOk ?_); conv => whnf) | (refine wl_cvA tabOk rfl rfl rfl (by simp only [inK]; omega) rfl rfl rfl (run_l tabOk ?_); conv => whnf) | (refine wl_cvB tabOk rfl rfl rfl rfl rfl rfl (run_l tabOk ?_); conv => whnf) | (refine wl_rem rfl rfl rfl rfl rfl rfl (by omega) (by omega) (fun r hr hr0 hr1 hr2 => run_l tabOk ?_); conv => whnf) | (refine wl_quo rfl rfl rfl rfl rfl rfl (by omega) (by omega) (by simp only [inK]; omega) (run_l tabOk ?_); conv => whnf) | (refine wl_mul rfl rfl rfl rfl rfl rfl (by omega) (by omega) (run_l tabOk ?_); conv => whnf) | (refine gs_dt (by first | assumption | omega) ?_; conv => whnf) | (refine gs_df (by first | assumption | omega) ?_; conv => whnf) | (refine gs_t (by assumption) ?_; conv => whnf) | (refine gs_f (by assumption) ?_; conv => whnf) | (refine gs_d (fun hg => ?_) (fun hg => ?_) <;> conv => whnf) | (refine gs_n (fun hg => ?_) (fun hg => ?_) <;> conv => whnf) | (refine gs_nb (fun hg => ?_) (fun hg => ?_) <;> conv => whnf) | (refine gs_b (fun hg => ?_) (fun hg => ?_) <;> conv => whnf) | refine fin1 rfl rfl ?_))
    have : bs.take i = bs := List.take_of_length_le (by omega)
    rw [this] at hI ⊢
    refine wl_str rfl rfl Try.underlying91 Try.underlying5 Try.underlying9 hI rfl rfl rfl (run_l tabOk ?_); conv => whnf
    (repeat' (first | (refine wl_add rfl rfl rfl rfl rfl rfl (by omega) (by omega) (run_l tabOk ?_); conv => whnf) | (refine wl_sub rfl rfl rfl rfl rfl rfl (by omega) (by omega) (run_l tabOk ?_); conv => whnf) | (refine wl_cvA tabOk rfl rfl rfl (by simp only [inK]; omega) rfl rfl rfl (run_l tabOk ?_); conv => whnf) | (refine wl_cvB tabOk rfl rfl rfl rfl rfl rfl (run_l tabOk ?_); conv => whnf) | (refine wl_rem rfl rfl rfl rfl rfl rfl (by omega) (by omega) (fun r hr hr0 hr1 hr2 => run_l tabOk ?_); conv => whnf) | (refine wl_quo rfl rfl rfl rfl rfl rfl (by omega) (by omega) (by simp only [inK]; omega) (run_l tabOk ?_); conv => whnf) | (refine wl_mul rfl rfl rfl rfl rfl rfl (by omega) (by omega) (run_l tabOk ?_); conv => whnf) | (refine gs_dt (by first | assumption | omega) ?_; conv => whnf) | (refine gs_df (by first | assumption | omega) ?_; conv => whnf) | (refine gs_t (by assumption) ?_; conv => whnf) | (refine gs_f (by assumption) ?_; conv => whnf) | (refine gs_d (fun hg => ?_) (fun hg => ?_) <;> conv => whnf) | (refine gs_n (fun hg => ?_) (fun hg => ?_) <;> conv => whnf) | (refine gs_nb (fun hg => ?_) (fun hg => ?_) <;> conv => whnf) | (refine gs_b (fun hg => ?_) (fun hg => ?_) <;> conv => whnf) | refine fin1 rfl rfl ?_))
    exact ⟨rfl, bup hB1 hB⟩
theorem pKey {base g : Nat} {w : World} {bs : List Blk} {fp : List Nat} (hP : PSet base g w bs fp) (hl : bs.length ≤ 1099511627776) :
    Calls Try.prog 32 #[.pointer (some ⟨g, 0, none⟩)] w fun e w' => e = .returned (.string (strB (keyB bs))) ∧ Below w.heap.size w w' := by
  obtain ⟨V, hb, ho, hfp, hne⟩ := hP.ex
  obtain ⟨A, c, rfl, hlc, hrow⟩ := ho.row
  refine pKeyL bs A c (some ⟨g, 0, none⟩) w (fun b hb => (hP.wf.rng b hb).1) hl ((pList hP).mono fun e w' ⟨A', c', he, hb', _, hr', hB⟩ => ?_)
  rw [hb] at hb'
  simp only [Option.some.injEq, Obj.cells.injEq, and_true, Array.mk.injEq, List.cons.injEq, Value.slice.injEq, true_and] at hb'
  obtain ⟨rfl, rfl⟩ := hb'
  exact ⟨he, hB, hr'.up stays_Blk hB⟩
end Go.Proofs.Ytjggjhgbobmkhaa

/- The walk of hu.Labels. -/
namespace Go.Proofs.Ytjggjhgbobmkhaa
open Go.RowKit
set_option linter.unusedVariables false
set_option linter.unusedSimpArgs false
set_option maxRecDepth 100000
theorem pickF {β : Type} [Inhabited β] {n : Nat} {R : Nat → β → Prop} (h : ∀ v, v < n → ∃ b, R v b) : ∃ f : Nat → β, ∀ v, v < n → R v (f v) :=
  ⟨fun v => if hv : v < n then (h v hv).choose else default, fun v hv => by simp only [hv, dif_pos]; exact (h v hv).choose_spec⟩
theorem numsB_zero {bs : List Blk} (h : WFB bs) : (numsB bs).length = 0 ↔ ∀ j, ¬ memB bs j = true := by
  constructor
  · intro e j hj
    have : (j : Int) ∈ numsB bs := (mem_numsB h).2 ⟨by omega, by simpa using hj⟩
    rw [List.length_eq_zero_iff.1 e] at this
    cases this
  · intro e
    refine List.length_eq_zero_iff.2 (List.eq_nil_iff_forall_not_mem.2 fun x hx => ?_)
    exact e _ ((mem_numsB h).1 hx).2
theorem PSet.keptL {B g : Nat} {w w1 : World} {bs : List Blk} {fp rb : List Nat} (h : PSet B g w bs fp) (hk : Kept rb w w1) (hr : ∀ b ∈ rb, b < B) : PSet B g w1 bs fp := h.kept hk fun b hb hm => by
  have h1 := (h.lt b hb).1
  have h2 := hr b hm
  omega
set_option maxHeartbeats 16000000 in
theorem huLabels (vars nc : Nat) (into bases : List (List Int)) (lo : List Bool) (A B C : Option Addr) (ca cb cc : Nat) (w : World) (hG : GOk vars into bases lo) (hnc : nc ≤ 16384) (hbl : ∀ v, v < vars → (bases[v]!).length ≤ 1048576) (hA : RRows w A into) (hB : RRows w B bases) (hC : RowR 1 dB w C lo) :
    Calls Try.prog 16 #[.agg #[.int .i64 vars, .slice A into.length ca, .slice B bases.length cb, .slice C lo.length cc], .int .i64 nc] w fun e w' => ∃ go hl, e = .returned (.slice (some ⟨go, 0, none⟩) vars vars) ∧ w'.heap[go]? = some (.cells (fZ vars hl).toArray 3 (0, 0)) ∧
      Canon vars hl (fun v u => ∀ j, GS vars nc into bases lo v j ↔ GS vars nc into bases lo u j) (fun v => ∀ j, ¬ GS vars nc into bases lo v j) ∧ Below w.heap.size w w' := by
  have hsm := hG.small
  refine enterR (args := [.agg #[.int .i64 vars, .slice A into.length ca, .slice B bases.length cb, .slice C lo.length cc], .int .i64 nc]) tabOk Try.func16 rfl Try.ntmps16 rfl ?_; conv => whnf
  refine wl_box rfl rfl rfl rfl rfl rfl ?_
  intro g1 w1 hn1
  have hb1 := hn1.blk
  refine run_l tabOk ?_
  conv => whnf
  refine wl_mkM rfl rfl rfl rfl ?_
  intro bm w2 hbm hw2 hB2
  refine run_l tabOk ?_
  conv => whnf
  have hb2 := blk_up hB2 hb1
  have hS2 : SNum w2 bm [] 0 := by rw [hbm]; exact StrM.made hw2
  (repeat' (first | (refine wl_Lg tabOk hb2 rfl rfl rfl rfl rfl rfl rfl (run_l tabOk ?_); conv => whnf) | (refine wl_add rfl rfl rfl rfl rfl rfl (by omega) (by omega) (run_l tabOk ?_); conv => whnf) | (refine wl_sub rfl rfl rfl rfl rfl rfl (by omega) (by omega) (run_l tabOk ?_); conv => whnf) | (refine gs_dt (by first | assumption | omega) ?_; conv => whnf) | (refine gs_df (by first | assumption | omega) ?_; conv => whnf) | (refine gs_t (by assumption) ?_; conv => whnf) | (refine gs_f (by assumption) ?_; conv => whnf) | (refine gs_d (fun hg => ?_) (fun hg => ?_) <;> conv => whnf) | (refine gs_n (fun hg => ?_) (fun hg => ?_) <;> conv => whnf) | (refine gs_nb (fun hg => ?_) (fun hg => ?_) <;> conv => whnf) | (refine gs_b (fun hg => ?_) (fun hg => ?_) <;> conv => whnf) | refine fin1 rfl rfl ?_))
  refine wl_mk (m := vars) tabOk 3 1 8 rfl rfl rfl rfl rfl rfl rfl rfl rfl (by omega) (by omega) ?_
  intro gl w5 hn5
  have hb5 : w5.heap[g1]? = some (.cells #[.int .i64 vars, .slice A into.length ca, .slice B bases.length cb, .slice C lo.length cc] 36 (0, 0)) := blk_up hn5.below hb2
  have hS5 := hS2.up hn5.below
  have hr5 : w5.heap[gl]? = some (.cells (fZ vars fun _ => 0).toArray 3 (0, 0)) := by rw [← fZ_zero]; exact hn5.blk
  have hB05 := bup (bup hn1.below hB2) hn5.below
  have hgl : w.heap.size ≤ gl ∧ w.heap.size ≤ bm ∧ gl < w5.heap.size ∧ bm < w5.heap.size := by
    have h1 := hn1.size
    have h2 := hn5.at_
    have h3 := hB2.size
    have h4 := blk_lt hr5
    have h5 := hS5.lt
    omega
  clear hn1 hb1 hbm hw2 hB2 hb2 hS2 hn5
  refine run_l tabOk ?_
  conv => whnf
  (repeat' (first | (refine wl_Lag tabOk hb5 rfl rfl rfl rfl rfl rfl (run_l tabOk ?_); conv => whnf) | (refine wl_add rfl rfl rfl rfl rfl rfl (by omega) (by omega) (run_l tabOk ?_); conv => whnf) | (refine wl_sub rfl rfl rfl rfl rfl rfl (by omega) (by omega) (run_l tabOk ?_); conv => whnf) | (refine gs_dt (by first | assumption | omega) ?_; conv => whnf) | (refine gs_df (by first | assumption | omega) ?_; conv => whnf) | (refine gs_t (by assumption) ?_; conv => whnf) | (refine gs_f (by assumption) ?_; conv => whnf) | (refine gs_d (fun hg => ?_) (fun hg => ?_) <;> conv => whnf) | (refine gs_n (fun hg => ?_) (fun hg => ?_) <;> conv => whnf) | (refine gs_nb (fun hg => ?_) (fun hg => ?_) <;> conv => whnf) | (refine gs_b (fun hg => ?_) (fun hg => ?_) <;> conv => whnf) | refine fin1 rfl rfl ?_))
  refine wl_C fn21 (huSources vars nc into bases lo A B C ca cb cc w5 hG hnc hbl (hA.up stays_Ints hB05) (hB.up stays_Ints hB05) (hC.up stays_B hB05)) rfl rfl rfl rfl rfl rfl rfl ?_
  rintro _ w6 ⟨g9, f, rfl, hr9, hsets, hB6⟩
  have hr6 := blk_up hB6 hr5
  have hS6 := hS5.up hB6
  have hne : g9 ≠ gl ∧ g9 ≠ bm := by
    refine ⟨fun e => ?_, fun e => ?_⟩
    · rw [e, hr6] at hr9
      simp only [Option.some.injEq, Obj.cells.injEq] at hr9
      exact absurd hr9.2.1 (by decide)
    · obtain ⟨D, ⟨es, clock, hb, _⟩, _⟩ := hS6.ex
      rw [e, hb] at hr9
      cases hr9
  obtain ⟨sb, hsb⟩ : ∃ sb : Nat → List Blk, ∀ v, v < vars → ∃ g fp, f v = .pointer (some ⟨g, 0, none⟩) ∧ PSet w5.heap.size g w6 (sb v) fp ∧ (∀ j, memB (sb v) j = true ↔ GS vars nc into bases lo v j) ∧ (sb v).length ≤ 1024 := pickF (R := fun v s => ∃ g fp, f v = .pointer (some ⟨g, 0, none⟩) ∧ PSet w5.heap.size g w6 s fp ∧ (∀ j, memB s j = true ↔ GS vars nc into bases lo v j) ∧ s.length ≤ 1024) fun v hv => by
    obtain ⟨g, e, hc⟩ := hsets v hv
    obtain ⟨bs, fp, h1, h2, h3⟩ := hc.ex
    exact ⟨bs, g, fp, e, h1, h2, h3⟩
  have hwf : ∀ v, v < vars → WFB (sb v) := fun v hv => by obtain ⟨g, fp, _, h, _⟩ := hsb v hv; exact h.wf
  have hmm : ∀ v, v < vars → ∀ j, memB (sb v) j = true ↔ GS vars nc into bases lo v j := fun v hv => by obtain ⟨g, fp, _, _, h, _⟩ := hsb v hv; exact h
  have hlt : ∀ v, v < vars → ∀ b ∈ sb v, b.a < 4294967296 := fun v hv b hb => by
    obtain ⟨i, hi, e⟩ := List.getElem_of_mem hb
    have hw := hwf v hv
    have hr := hw.rng b hb
    obtain ⟨k, hk, ht⟩ := bit_some hr.2.2.1 hr.2.2.2
    have hd := num_div b.a hr.1 k hk
    have hbe : (sb v)[i]! = b := by rw [getElem!_pos _ i hi, e]
    have h2 := hw.at_ (n := 64 * b.a.toNat + k) hi (by rw [hbe]; exact hd.1.symm)
    rw [hbe, hd.2, ht] at h2
    have h3 := GS.lt hG hnc (v := v) (by have := hG.ni; omega) ((hmm v hv _).1 h2)
    omega
  obtain ⟨Z, hZ⟩ : ∃ Z : Nat → Prop, Z = fun v => ∀ j, ¬ GS vars nc into bases lo v j := ⟨_, rfl⟩
  obtain ⟨key, hkey⟩ : ∃ key : Nat → ByteArray, key = fun v => strB (keyB (sb v)) := ⟨_, rfl⟩
  have hz : ∀ v, v < vars → ((numsB (sb v)).length = 0 ↔ Z v) := fun v hv => by
    rw [numsB_zero (hwf v hv), hZ]
    exact forall_congr' fun j => not_congr (hmm v hv j)
  have hks : ∀ v, v < vars → (key v).size ≤ maxLen := fun v hv => by
    obtain ⟨g, fp, _, _, _, h4⟩ := hsb v hv
    rw [hkey]
    show (strB (keyB (sb v))).size ≤ maxLen
    have h1 : (strB (keyB (sb v))).size = (strB (keyB (sb v))).data.toList.length := by rw [Array.length_toList]; rfl
    have h2 : (strB (keyB (sb v))).data.toList = (keyB (sb v)).map UInt8.ofNat := by
      have := foldB (keyB (sb v)) ByteArray.empty
      simpa [strB] using this
    rw [h1, h2, List.length_map, keyB_len]
    simp only [maxLen]
    omega
  have hke : ∀ a b, a < vars → b < vars → (key a = key b ↔ ∀ j, GS vars nc into bases lo a j ↔ GS vars nc into bases lo b j) := fun a b ha hb => by
    have h1 := keyS_eq (hwf a ha) (hwf b hb) (hlt a ha) (hlt b hb)
    rw [bbeq] at h1
    have h2 : key a = key b ↔ sb a = sb b := by rw [hkey]; exact decide_eq_decide.1 h1
    rw [h2]
    constructor
    · intro e j
      rw [← hmm a ha, ← hmm b hb, e]
    · intro h
      exact canonB (hwf a ha) (hwf b hb) fun j => Bool.eq_iff_iff.2 ((hmm a ha j).trans ((h j).trans (hmm b hb j).symm))
  have hkd : ∀ v, key v = strB (keyB (sb v)) := fun v => by rw [hkey]
  clear hkey hsets hmm hwf hlt
  refine ⟨_, rfl, run_l tabOk ?_⟩
  conv => whnf
  (repeat' (first | (refine wl_add rfl rfl rfl rfl rfl rfl (by omega) (by omega) (run_l tabOk ?_); conv => whnf) | (refine wl_sub rfl rfl rfl rfl rfl rfl (by omega) (by omega) (run_l tabOk ?_); conv => whnf) | (refine gs_dt (by first | assumption | omega) ?_; conv => whnf) | (refine gs_df (by first | assumption | omega) ?_; conv => whnf) | (refine gs_t (by assumption) ?_; conv => whnf) | (refine gs_f (by assumption) ?_; conv => whnf) | (refine gs_d (fun hg => ?_) (fun hg => ?_) <;> conv => whnf) | (refine gs_n (fun hg => ?_) (fun hg => ?_) <;> conv => whnf) | (refine gs_nb (fun hg => ?_) (fun hg => ?_) <;> conv => whnf) | (refine gs_b (fun hg => ?_) (fun hg => ?_) <;> conv => whnf) | refine fin1 rfl rfl ?_))
  refine wc_ends 0 (fun _ _ => False) (X := Unit) (fun _ => [(6, .slice (some ⟨gl, 0, none⟩) vars vars)]) (fun _ wj => ∃ hl L, Kept [gl, bm] w6 wj ∧ wj.heap[gl]? = some (.cells (fZ vars hl).toArray 3 (0, 0)) ∧ LbI Z key vars hl L) ?_ (fun _ _ h => h.elim) ?_
  · refine lp_loop tabOk (X := Nat) (fun v => [(5, .map (some bm)), (6, .slice (some ⟨gl, 0, none⟩) vars vars), (18, .slice (some ⟨g9, 0, none⟩) vars vars), (19, .int .i64 (vars : Int)), (20, .int .i64 (v : Int))]) (fun v wj => v ≤ vars ∧ ∃ hl L n, n ≤ v ∧ Kept [gl, bm] w6 wj ∧ wj.heap[gl]? = some (.cells (fZ vars hl).toArray 3 (0, 0)) ∧ SNum wj bm L n ∧ LbI Z key v hl L) (fun v => vars - v) 0 ⟨rfl, rfl, rfl, rfl, rfl, trivial⟩ ⟨by omega, _, [], 0, Nat.le_refl _, Kept.refl _ _, hr6, hS6, LbI.start _⟩ ?_
    clear hr6 hS6 hr5 hS5 hb5
    rintro v G wj ⟨hv, hl, L, n, hn, hkj, hrj, hSj, hI⟩
    by_cases hvn : v < vars
    · obtain ⟨g, fp, hfv, hP6, hmem, hfew⟩ := hsb v hvn
      have hPj := hP6.keptL hkj (by simp; omega)
      have hc9 : wj.cell? ((⟨g9, 0, none⟩ : Addr).add (v * 1)) = some (.pointer (some ⟨g, 0, none⟩)) := by
        rw [Nat.mul_one, add_zero, ← hfv]
        exact cell_blk (hkj.blk hr9 (by simp; exact hne)) (by simpa using pvs_get hvn)
      have hbg : bm ≠ gl := fun e => by
        obtain ⟨D, ⟨es, clock, hb, _⟩, _⟩ := hSj.ex
        rw [e, hrj] at hb
        cases hb
      have hLl := hI.len
      conv => whnf
      (repeat' (first | (refine wl_L tabOk rfl rfl rfl rfl rfl rfl hc9 (run_l tabOk ?_); conv => whnf) | (refine wl_Xn tabOk 50 1 rfl rfl rfl rfl rfl rfl rfl (by omega) (run_l tabOk ?_); conv => whnf) | (refine wl_Xn tabOk 3 1 rfl rfl rfl rfl rfl rfl rfl (by omega) (run_l tabOk ?_); conv => whnf) | (refine wl_add rfl rfl rfl rfl rfl rfl (by omega) (by omega) (run_l tabOk ?_); conv => whnf) | (refine wl_sub rfl rfl rfl rfl rfl rfl (by omega) (by omega) (run_l tabOk ?_); conv => whnf) | (refine gs_dt (by first | assumption | omega) ?_; conv => whnf) | (refine gs_df (by first | assumption | omega) ?_; conv => whnf) | (refine gs_t (by assumption) ?_; conv => whnf) | (refine gs_f (by assumption) ?_; conv => whnf) | (refine gs_d (fun hg => ?_) (fun hg => ?_) <;> conv => whnf) | (refine gs_n (fun hg => ?_) (fun hg => ?_) <;> conv => whnf) | (refine gs_nb (fun hg => ?_) (fun hg => ?_) <;> conv => whnf) | (refine gs_b (fun hg => ?_) (fun hg => ?_) <;> conv => whnf) | refine fin1 rfl rfl ?_))
      refine wl_Se (j := v * 1) (v := .int .i64 (-1)) tabOk hrj rfl rfl rfl rfl rfl rfl (by rw [fZ_len]; omega) rfl rfl ?_
      intro w7 hp7
      rw [Nat.mul_one, fZ_set] at hp7
      have hk7 := hkj.put hp7 (.inl (by simp))
      have hP7 := hP6.keptL hk7 (by simp; omega)
      have hr7 := hp7.blk
      have hS7 := hSj.kept hp7.grown (fun e => by injection e with e; exact hbg e)
      clear hp7 hPj
      refine run_l tabOk ?_
      conv => whnf
      refine wl_C fn23 (pLen hP7 (by omega)) rfl rfl rfl rfl rfl rfl rfl ?_
      rintro _ w8 ⟨rfl, hB8⟩
      have hk8 := hk7.up hB8
      have hr8 := blk_up hB8 hr7
      have hS8 := hS7.up hB8
      have hP8 := hP7.up hB8
      refine ⟨_, rfl, run_l tabOk ?_⟩
      conv => whnf
      by_cases hzv : Z v
      · have h0 := (hz v hvn).2 hzv
        (repeat' (first | (refine wl_add rfl rfl rfl rfl rfl rfl (by omega) (by omega) (run_l tabOk ?_); conv => whnf) | (refine wl_sub rfl rfl rfl rfl rfl rfl (by omega) (by omega) (run_l tabOk ?_); conv => whnf) | (refine gs_dt (by first | assumption | omega) ?_; conv => whnf) | (refine gs_df (by first | assumption | omega) ?_; conv => whnf) | (refine gs_t (by assumption) ?_; conv => whnf) | (refine gs_f (by assumption) ?_; conv => whnf) | (refine gs_d (fun hg => ?_) (fun hg => ?_) <;> conv => whnf) | (refine gs_n (fun hg => ?_) (fun hg => ?_) <;> conv => whnf) | (refine gs_nb (fun hg => ?_) (fun hg => ?_) <;> conv => whnf) | (refine gs_b (fun hg => ?_) (fun hg => ?_) <;> conv => whnf) | refine fin1 rfl rfl ?_))
        exact ⟨v + 1, ⟨rfl, rfl, rfl, rfl, rfl, trivial⟩, ⟨by omega, _, L, n, by omega, hk8, hr8, hS8, hI.zero hzv⟩, by omega⟩
      · have h0 : 0 < (numsB (sb v)).length := by
          exact Nat.pos_of_ne_zero fun e => hzv ((hz v hvn).1 e)
        (repeat' (first | (refine wl_add rfl rfl rfl rfl rfl rfl (by omega) (by omega) (run_l tabOk ?_); conv => whnf) | (refine wl_sub rfl rfl rfl rfl rfl rfl (by omega) (by omega) (run_l tabOk ?_); conv => whnf) | (refine gs_dt (by first | assumption | omega) ?_; conv => whnf) | (refine gs_df (by first | assumption | omega) ?_; conv => whnf) | (refine gs_t (by assumption) ?_; conv => whnf) | (refine gs_f (by assumption) ?_; conv => whnf) | (refine gs_d (fun hg => ?_) (fun hg => ?_) <;> conv => whnf) | (refine gs_n (fun hg => ?_) (fun hg => ?_) <;> conv => whnf) | (refine gs_nb (fun hg => ?_) (fun hg => ?_) <;> conv => whnf) | (refine gs_b (fun hg => ?_) (fun hg => ?_) <;> conv => whnf) | refine fin1 rfl rfl ?_))
        refine wl_C fn32 (pKey hP8 (by omega)) rfl rfl rfl rfl rfl rfl rfl ?_
        rintro _ w9 ⟨rfl, hB9⟩
        have hk9 := hk8.up hB9
        have hr9' := blk_up hB9 hr8
        have hS9 := hS8.up hB9
        rw [← hkd v]
        refine ⟨_, rfl, run_l tabOk ?_⟩
        conv => whnf
        obtain ⟨x, ok, hlk, hok, hix⟩ := hS9.look strTy (zeroI _) (hks v hvn)
        refine wl_lkM hlk rfl rfl rfl rfl rfl rfl ?_
        refine run_l tabOk ?_
        conv => whnf
        have hoc : ok = true ∨ ok = false := by cases ok <;> simp
        rcases hoc with rfl | rfl
        · have hin := hok.1 rfl
          obtain ⟨i, hi, e⟩ := List.getElem_of_mem hin
          have he : L[i]! = key v := by rw [getElem!_pos L i hi, e]
          have hxi := hix i hi he
          subst hxi
          conv => whnf
          (repeat' (first | (refine wl_Xn tabOk 3 1 rfl rfl rfl rfl rfl rfl rfl (by omega) (run_l tabOk ?_); conv => whnf) | (refine wl_add rfl rfl rfl rfl rfl rfl (by omega) (by omega) (run_l tabOk ?_); conv => whnf) | (refine wl_sub rfl rfl rfl rfl rfl rfl (by omega) (by omega) (run_l tabOk ?_); conv => whnf) | (refine gs_dt (by first | assumption | omega) ?_; conv => whnf) | (refine gs_df (by first | assumption | omega) ?_; conv => whnf) | (refine gs_t (by assumption) ?_; conv => whnf) | (refine gs_f (by assumption) ?_; conv => whnf) | (refine gs_d (fun hg => ?_) (fun hg => ?_) <;> conv => whnf) | (refine gs_n (fun hg => ?_) (fun hg => ?_) <;> conv => whnf) | (refine gs_nb (fun hg => ?_) (fun hg => ?_) <;> conv => whnf) | (refine gs_b (fun hg => ?_) (fun hg => ?_) <;> conv => whnf) | refine fin1 rfl rfl ?_))
          refine wl_Se (j := v * 1) (v := .int .i64 (i : Int)) tabOk hr9' rfl rfl rfl rfl rfl rfl (by rw [fZ_len]; omega) rfl rfl ?_
          intro w10 hp10
          rw [Nat.mul_one, fZ_set] at hp10
          have hs2 : setF (setF hl v (-1)) v (i : Int) = setF hl v (i : Int) := by
            funext q
            unfold setF
            split <;> rfl
          rw [hs2] at hp10
          refine run_l tabOk ?_
          conv => whnf
          (repeat' (first | (refine wl_add rfl rfl rfl rfl rfl rfl (by omega) (by omega) (run_l tabOk ?_); conv => whnf) | (refine wl_sub rfl rfl rfl rfl rfl rfl (by omega) (by omega) (run_l tabOk ?_); conv => whnf) | (refine gs_dt (by first | assumption | omega) ?_; conv => whnf) | (refine gs_df (by first | assumption | omega) ?_; conv => whnf) | (refine gs_t (by assumption) ?_; conv => whnf) | (refine gs_f (by assumption) ?_; conv => whnf) | (refine gs_d (fun hg => ?_) (fun hg => ?_) <;> conv => whnf) | (refine gs_n (fun hg => ?_) (fun hg => ?_) <;> conv => whnf) | (refine gs_nb (fun hg => ?_) (fun hg => ?_) <;> conv => whnf) | (refine gs_b (fun hg => ?_) (fun hg => ?_) <;> conv => whnf) | refine fin1 rfl rfl ?_))
          exact ⟨v + 1, ⟨rfl, rfl, rfl, rfl, rfl, trivial⟩, ⟨by omega, _, L, n, by omega, hk9.put hp10 (.inl (by simp)), hp10.blk, hS9.kept hp10.grown (fun e => by injection e with e; exact hbg e), hI.old hzv hi he⟩, by omega⟩
        · have hnin : key v ∉ L := fun h => by have := hok.2 h; cases this
          conv => whnf
          (repeat' (first | (refine wl_Xn tabOk 3 1 rfl rfl rfl rfl rfl rfl rfl (by omega) (run_l tabOk ?_); conv => whnf) | (refine wl_add rfl rfl rfl rfl rfl rfl (by omega) (by omega) (run_l tabOk ?_); conv => whnf) | (refine wl_sub rfl rfl rfl rfl rfl rfl (by omega) (by omega) (run_l tabOk ?_); conv => whnf) | (refine gs_dt (by first | assumption | omega) ?_; conv => whnf) | (refine gs_df (by first | assumption | omega) ?_; conv => whnf) | (refine gs_t (by assumption) ?_; conv => whnf) | (refine gs_f (by assumption) ?_; conv => whnf) | (refine gs_d (fun hg => ?_) (fun hg => ?_) <;> conv => whnf) | (refine gs_n (fun hg => ?_) (fun hg => ?_) <;> conv => whnf) | (refine gs_nb (fun hg => ?_) (fun hg => ?_) <;> conv => whnf) | (refine gs_b (fun hg => ?_) (fun hg => ?_) <;> conv => whnf) | refine fin1 rfl rfl ?_))
          refine wl_lenM (hS9.len strTy) rfl rfl rfl rfl rfl rfl rfl rfl ?_
          refine run_l tabOk ?_
          conv => whnf
          (repeat' (first | (refine wl_add rfl rfl rfl rfl rfl rfl (by omega) (by omega) (run_l tabOk ?_); conv => whnf) | (refine wl_sub rfl rfl rfl rfl rfl rfl (by omega) (by omega) (run_l tabOk ?_); conv => whnf) | (refine gs_dt (by first | assumption | omega) ?_; conv => whnf) | (refine gs_df (by first | assumption | omega) ?_; conv => whnf) | (refine gs_t (by assumption) ?_; conv => whnf) | (refine gs_f (by assumption) ?_; conv => whnf) | (refine gs_d (fun hg => ?_) (fun hg => ?_) <;> conv => whnf) | (refine gs_n (fun hg => ?_) (fun hg => ?_) <;> conv => whnf) | (refine gs_nb (fun hg => ?_) (fun hg => ?_) <;> conv => whnf) | (refine gs_b (fun hg => ?_) (fun hg => ?_) <;> conv => whnf) | refine fin1 rfl rfl ?_))
          refine wl_mu (hS9.put strTy (by unfold maxLen; omega) (hks v hvn) ⟨by omega, by omega⟩ hnin) rfl rfl rfl rfl rfl rfl ?_
          rintro w10 ⟨hS10, hg10⟩
          have hr10 : w10.heap[gl]? = _ := (hg10.block gl (blk_lt hr9') (fun e => by injection e with e; exact hbg e.symm)).trans hr9'
          have hk10 := hk9.grown hg10 (fun g e => by injection e with e; subst e; exact .inl (by simp))
          refine run_l tabOk ?_
          conv => whnf
          (repeat' (first | (refine wl_Xn tabOk 3 1 rfl rfl rfl rfl rfl rfl rfl (by omega) (run_l tabOk ?_); conv => whnf) | (refine wl_add rfl rfl rfl rfl rfl rfl (by omega) (by omega) (run_l tabOk ?_); conv => whnf) | (refine wl_sub rfl rfl rfl rfl rfl rfl (by omega) (by omega) (run_l tabOk ?_); conv => whnf) | (refine gs_dt (by first | assumption | omega) ?_; conv => whnf) | (refine gs_df (by first | assumption | omega) ?_; conv => whnf) | (refine gs_t (by assumption) ?_; conv => whnf) | (refine gs_f (by assumption) ?_; conv => whnf) | (refine gs_d (fun hg => ?_) (fun hg => ?_) <;> conv => whnf) | (refine gs_n (fun hg => ?_) (fun hg => ?_) <;> conv => whnf) | (refine gs_nb (fun hg => ?_) (fun hg => ?_) <;> conv => whnf) | (refine gs_b (fun hg => ?_) (fun hg => ?_) <;> conv => whnf) | refine fin1 rfl rfl ?_))
          refine wl_Se (j := v * 1) (v := .int .i64 (L.length : Int)) tabOk hr10 rfl rfl rfl rfl rfl rfl (by rw [fZ_len]; omega) rfl rfl ?_
          intro w11 hp11
          rw [Nat.mul_one, fZ_set] at hp11
          have hs2 : setF (setF hl v (-1)) v (L.length : Int) = setF hl v (L.length : Int) := by
            funext q
            unfold setF
            split <;> rfl
          rw [hs2] at hp11
          refine run_l tabOk ?_
          conv => whnf
          (repeat' (first | (refine wl_add rfl rfl rfl rfl rfl rfl (by omega) (by omega) (run_l tabOk ?_); conv => whnf) | (refine wl_sub rfl rfl rfl rfl rfl rfl (by omega) (by omega) (run_l tabOk ?_); conv => whnf) | (refine gs_dt (by first | assumption | omega) ?_; conv => whnf) | (refine gs_df (by first | assumption | omega) ?_; conv => whnf) | (refine gs_t (by assumption) ?_; conv => whnf) | (refine gs_f (by assumption) ?_; conv => whnf) | (refine gs_d (fun hg => ?_) (fun hg => ?_) <;> conv => whnf) | (refine gs_n (fun hg => ?_) (fun hg => ?_) <;> conv => whnf) | (refine gs_nb (fun hg => ?_) (fun hg => ?_) <;> conv => whnf) | (refine gs_b (fun hg => ?_) (fun hg => ?_) <;> conv => whnf) | refine fin1 rfl rfl ?_))
          exact ⟨v + 1, ⟨rfl, rfl, rfl, rfl, rfl, trivial⟩, ⟨by omega, _, _, n + 1, by omega, hk10.put hp11 (.inl (by simp)), hp11.blk, hS10.kept hp11.grown (fun e => by injection e with e; exact hbg e), hI.new hzv hnin⟩, by omega⟩
    · have hvn2 : v = vars := by omega
      rw [hvn2] at hI
      conv => whnf
      (repeat' (first | (refine wl_add rfl rfl rfl rfl rfl rfl (by omega) (by omega) (run_l tabOk ?_); conv => whnf) | (refine wl_sub rfl rfl rfl rfl rfl rfl (by omega) (by omega) (run_l tabOk ?_); conv => whnf) | (refine gs_dt (by first | assumption | omega) ?_; conv => whnf) | (refine gs_df (by first | assumption | omega) ?_; conv => whnf) | (refine gs_t (by assumption) ?_; conv => whnf) | (refine gs_f (by assumption) ?_; conv => whnf) | (refine gs_d (fun hg => ?_) (fun hg => ?_) <;> conv => whnf) | (refine gs_n (fun hg => ?_) (fun hg => ?_) <;> conv => whnf) | (refine gs_nb (fun hg => ?_) (fun hg => ?_) <;> conv => whnf) | (refine gs_b (fun hg => ?_) (fun hg => ?_) <;> conv => whnf) | refine fin1 rfl rfl ?_))
      exact ⟨rfl, (), ⟨rfl, trivial⟩, hl, L, hkj, hrj, hI⟩
  · rintro _ G wj ⟨hl, L, hkj, hrj, hI⟩
    conv => whnf
    (repeat' (first | (refine wl_add rfl rfl rfl rfl rfl rfl (by omega) (by omega) (run_l tabOk ?_); conv => whnf) | (refine wl_sub rfl rfl rfl rfl rfl rfl (by omega) (by omega) (run_l tabOk ?_); conv => whnf) | (refine gs_dt (by first | assumption | omega) ?_; conv => whnf) | (refine gs_df (by first | assumption | omega) ?_; conv => whnf) | (refine gs_t (by assumption) ?_; conv => whnf) | (refine gs_f (by assumption) ?_; conv => whnf) | (refine gs_d (fun hg => ?_) (fun hg => ?_) <;> conv => whnf) | (refine gs_n (fun hg => ?_) (fun hg => ?_) <;> conv => whnf) | (refine gs_nb (fun hg => ?_) (fun hg => ?_) <;> conv => whnf) | (refine gs_b (fun hg => ?_) (fun hg => ?_) <;> conv => whnf) | refine fin1 rfl rfl ?_))
    have hZZ : ∀ a b, a < vars → b < vars → (∀ j, GS vars nc into bases lo a j ↔ GS vars nc into bases lo b j) → (Z a ↔ Z b) := fun a b _ _ h => by
      rw [hZ]
      exact forall_congr' fun j => not_congr (h j)
    have hZ2 : ∀ a b, Z a → Z b → ∀ j, GS vars nc into bases lo a j ↔ GS vars nc into bases lo b j := fun a b ha hb j => by
      rw [hZ] at ha hb
      exact ⟨fun h => absurd h (ha j), fun h => absurd h (hb j)⟩
    have hcan := hI.done hke hZZ hZ2
    rw [hZ] at hcan
    refine ⟨gl, hl, rfl, hrj, hcan, hkj.below (bup hB05 hB6) (bup hB05 hB6).size (fun k hk => ?_)⟩
    simp at hk
    rcases hk with rfl | rfl
    · exact hgl.1
    · exact hgl.2.1
end Go.Proofs.Ytjggjhgbobmkhaa

/- The example of the document's chapter on sources. -/
namespace Go.Proofs.Ytjggjhgbobmkhaa
open Go.RowKit
set_option linter.unusedVariables false
set_option linter.unusedSimpArgs false
set_option maxRecDepth 100000
def hInto : List (List Int) := [[], [0], [], [], [], [], [], [], [], []]
def hBases : List (List Int) := [[0], [1], [1, 0], [], []]
def hLo : List Bool := [false, false, false, true, true, true, true, true, true, true]
theorem h_ed {u v : Nat} (h : Ed hInto u v) : u = 1 ∧ v = 0 := by
  obtain ⟨k, h1, h2, h3, h4⟩ := h
  have h1 : u < 10 := h1
  have : u = 0 ∨ u = 1 ∨ u = 2 ∨ u = 3 ∨ u = 4 ∨ u = 5 ∨ u = 6 ∨ u = 7 ∨ u = 8 ∨ u = 9 := by omega
  rcases this with rfl | rfl | rfl | rfl | rfl | rfl | rfl | rfl | rfl | rfl
  · exact absurd h3 (Nat.not_lt_zero k)
  · have hk : k = 0 := by have : k < 1 := h3; omega
    subst hk
    have : (0 : Int) = (v : Int) := h4
    exact ⟨rfl, by omega⟩
  all_goals exact absurd h3 (Nat.not_lt_zero k)
theorem h_rg {u v : Nat} (h : Rg hInto u v) : v = u ∨ (u = 1 ∧ v = 0) := by
  cases h with
  | refl => exact .inl rfl
  | step e r =>
    obtain ⟨rfl, rfl⟩ := h_ed e
    cases r with
    | refl => exact .inr ⟨rfl, rfl⟩
    | step e r => have := h_ed e; omega
theorem h_gs0 (j : Nat) : GS 5 2 hInto hBases hLo 0 j ↔ j = 0 := by
  constructor
  · rintro ⟨u, h1, h2⟩
    have hu : u = 0 := by rcases h_rg h1 with h | h <;> omega
    subst hu
    rcases h2 with ⟨_, h2⟩ | ⟨h2, _⟩
    · have h2 : (j : Int) ∈ [(0 : Int)] := h2
      simp at h2
      exact h2
    · cases h2
  · rintro rfl
    exact ⟨0, .refl 0, .inl ⟨by omega, by decide⟩⟩
theorem h_gs1 (j : Nat) : GS 5 2 hInto hBases hLo 1 j ↔ j = 0 ∨ j = 1 := by
  constructor
  · rintro ⟨u, h1, h2⟩
    rcases h_rg h1 with rfl | ⟨_, rfl⟩
    · rcases h2 with ⟨_, h2⟩ | ⟨h2, _⟩
      · have h2 : (j : Int) ∈ [(1 : Int)] := h2
        simp at h2
        omega
      · cases h2
    · rcases h2 with ⟨_, h2⟩ | ⟨h2, _⟩
      · have h2 : (j : Int) ∈ [(0 : Int)] := h2
        simp at h2
        omega
      · cases h2
  · rintro (rfl | rfl)
    · exact ⟨0, .one ⟨0, by decide, by decide, by decide, by decide⟩, .inl ⟨by omega, by decide⟩⟩
    · exact ⟨1, .refl 1, .inl ⟨by omega, by decide⟩⟩
theorem h_gs2 (j : Nat) : GS 5 2 hInto hBases hLo 2 j ↔ j = 0 ∨ j = 1 := by
  constructor
  · rintro ⟨u, h1, h2⟩
    have hu : u = 2 := by rcases h_rg h1 with h | h <;> omega
    subst hu
    rcases h2 with ⟨_, h2⟩ | ⟨h2, _⟩
    · have h2 : (j : Int) ∈ [(1 : Int), 0] := h2
      simp at h2
      omega
    · cases h2
  · rintro (rfl | rfl)
    · exact ⟨2, .refl 2, .inl ⟨by omega, by decide⟩⟩
    · exact ⟨2, .refl 2, .inl ⟨by omega, by decide⟩⟩
def hCells : List Cell := [⟨false, 3, []⟩, ⟨false, 4, []⟩]
def hCons : List Con := [⟨1, 0, 0, []⟩, ⟨2, 1, 0, []⟩, ⟨1, 1, 1, []⟩, ⟨1, 2, 1, []⟩, ⟨1, 2, 0, []⟩]
theorem aw18 {hl : Nat → Int} (h : Canon 5 hl (fun v u => ∀ j, GS 5 2 hInto hBases hLo v j ↔ GS 5 2 hInto hBases hLo u j) (fun v => ∀ j, ¬ GS 5 2 hInto hBases hLo v j)) : hl 1 = hl 2 ∧ hl 0 ≠ hl 1 := by
  refine ⟨(h.same 1 2 (by omega) (by omega)).2 fun j => by rw [h_gs1, h_gs2], fun e => ?_⟩
  have := (h.same 0 1 (by omega) (by omega)).1 e 1
  rw [h_gs0, h_gs1] at this
  omega
set_option maxHeartbeats 4000000 in
theorem awake18 (w : World) : Calls Try.prog 14 #[] w fun e w' => e = .returned (.bool true) ∧ Below w.heap.size w w' := by
  refine enterR (args := []) tabOk Try.func14 rfl Try.ntmps14 rfl ?_; conv => whnf
  refine wl_bs tabOk 44 3 rfl rfl rfl rfl rfl rfl rfl rfl rfl rfl ?_
  intro g1 w1 hn1
  refine run_l tabOk ?_
  conv => whnf
  refine wl_bs tabOk 46 4 rfl rfl rfl rfl rfl rfl rfl rfl rfl rfl ?_
  intro g2 w2 hn2
  refine run_l tabOk ?_
  conv => whnf
  refine wl_alloc tabOk rfl rfl rfl rfl rfl rfl ?_
  intro g3 w3 hn3
  refine run_l tabOk ?_
  conv => whnf
  refine wl_Sa tabOk hn3.blk rfl rfl rfl rfl rfl (by simp [Value.oneCell']) rfl rfl ?_
  intro w4 hp4
  refine run_l tabOk ?_
  conv => whnf
  have q1 := hn1.at_
  have q2 := hn2.at_
  have q3 := hn3.at_
  have q1s := hn1.size
  have q2s := hn2.size
  have q3s := hn3.size
  have hb1 := hp4.old (hn3.old (hn2.old hn1.blk)) (by omega)
  have hb2 := hp4.old (hn3.old hn2.blk) (by omega)
  have hb3 := hp4.blk
  have hB4 : Below w.heap.size w w4 := hp4.below (hn3.up (hn2.up hn1.below)) (by omega) (by omega)
  (repeat' (first | (refine wl_Lag tabOk hb3 rfl rfl rfl rfl rfl rfl (run_l tabOk ?_); conv => whnf) | (refine wl_add rfl rfl rfl rfl rfl rfl (by omega) (by omega) (run_l tabOk ?_); conv => whnf) | (refine wl_sub rfl rfl rfl rfl rfl rfl (by omega) (by omega) (run_l tabOk ?_); conv => whnf) | (refine gs_dt (by first | assumption | omega) ?_; conv => whnf) | (refine gs_df (by first | assumption | omega) ?_; conv => whnf) | (refine gs_t (by assumption) ?_; conv => whnf) | (refine gs_f (by assumption) ?_; conv => whnf) | (refine gs_d (fun hg => ?_) (fun hg => ?_) <;> conv => whnf) | (refine gs_n (fun hg => ?_) (fun hg => ?_) <;> conv => whnf) | (refine gs_nb (fun hg => ?_) (fun hg => ?_) <;> conv => whnf) | (refine gs_b (fun hg => ?_) (fun hg => ?_) <;> conv => whnf) | refine fin1 rfl rfl ?_))
  have hxs : RCells w4 (some ⟨g1, 0, none⟩) hCells := row_of_blk hb1 ((Elems.one (d := dCell) rfl (dCell_nil _ false 3 (by decide) (by decide))).push (cs := [.bool false, .int .i64 4, .slice none 0 0]) rfl (dCell_nil _ false 4 (by decide) (by decide))) (by simp [hCells])
  have hys : RCons w4 (some ⟨g2, 0, none⟩) hCons := row_of_blk hb2 (((((Elems.one (d := dCon) rfl (dCon_nil _ 1 0 0 (by decide) (by decide) (by decide))).push (cs := [.int .u8 2, .int .i64 1, .int .i64 0, .slice none 0 0]) rfl (dCon_nil _ 2 1 0 (by decide) (by decide) (by decide))).push (cs := [.int .u8 1, .int .i64 1, .int .i64 1, .slice none 0 0]) rfl (dCon_nil _ 1 1 1 (by decide) (by decide) (by decide))).push (cs := [.int .u8 1, .int .i64 2, .int .i64 1, .slice none 0 0]) rfl (dCon_nil _ 1 2 1 (by decide) (by decide) (by decide))).push (cs := [.int .u8 1, .int .i64 2, .int .i64 0, .slice none 0 0]) rfl (dCon_nil _ 1 2 0 (by decide) (by decide) (by decide))) (by simp [hCons])
  have hr : rightB ⟨(5 : Nat), hCells, hCons⟩ = true := by decide
  refine wl_C fn17 (graphOfR 5 hCells hCons (some ⟨g1, 0, none⟩) (some ⟨g2, 0, none⟩) 2 5 w4 hxs hys hr) rfl rfl rfl rfl rfl rfl rfl ?_
  rintro _ w5 ⟨A, B, C, rfl, k1, k2, k3, hB5⟩
  have hG := gok hr
  have e1 : (gfold ⟨(5 : Nat), hCells, hCons⟩).1 = hInto := by decide
  have e2 : (gfold ⟨(5 : Nat), hCells, hCons⟩).2 = hBases := by decide
  have e3 : looseB ⟨(5 : Nat), hCells, hCons⟩ ++ List.replicate 5 true = hLo := by decide
  rw [e1] at k1 hG
  rw [e2] at k2 hG
  rw [e3] at k3 hG
  refine ⟨_, rfl, run_l tabOk ?_⟩
  conv => whnf
  refine wl_C fn16 (huLabels 5 2 hInto hBases hLo A B C (2 * 5) 5 (2 * 5) w5 hG (by omega) (fun v hv => by
    have : v = 0 ∨ v = 1 ∨ v = 2 ∨ v = 3 ∨ v = 4 := by omega
    rcases this with rfl | rfl | rfl | rfl | rfl <;> decide) k1 k2 k3) rfl rfl rfl rfl rfl rfl rfl ?_
  rintro _ w6 ⟨go, hl, rfl, hrow, hcan, hB6⟩
  have rdl : ∀ j, j < 5 → w6.cell? ((⟨go, 0, none⟩ : Addr).add (j * 1)) = some (.int .i64 (hl j)) := fun j hj => by
    rw [Nat.mul_one, add_zero]
    exact cell_blk hrow (by simpa using fZ_get hj)
  obtain ⟨h12, h01⟩ := aw18 hcan
  have c0 : w6.cell? ((⟨go, 0, none⟩ : Addr).add ((0 : Int).toNat * 1)) = _ := rdl 0 (by omega)
  have c1 : w6.cell? ((⟨go, 0, none⟩ : Addr).add ((1 : Int).toNat * 1)) = _ := rdl 1 (by omega)
  have c2 : w6.cell? ((⟨go, 0, none⟩ : Addr).add ((2 : Int).toNat * 1)) = _ := rdl 2 (by omega)
  clear rdl hcan hrow
  generalize hl 0 = l0 at *
  generalize hl 1 = l1 at *
  generalize hl 2 = l2 at *
  refine ⟨_, rfl, run_l tabOk ?_⟩
  conv => whnf
  (repeat' (first | (refine wl_add rfl rfl rfl rfl rfl rfl (by omega) (by omega) (run_l tabOk ?_); conv => whnf) | (refine wl_sub rfl rfl rfl rfl rfl rfl (by omega) (by omega) (run_l tabOk ?_); conv => whnf) | (refine gs_dt (by first | assumption | omega) ?_; conv => whnf) | (refine gs_df (by first | assumption | omega) ?_; conv => whnf) | (refine gs_t (by assumption) ?_; conv => whnf) | (refine gs_f (by assumption) ?_; conv => whnf) | (refine gs_d (fun hg => ?_) (fun hg => ?_) <;> conv => whnf) | (refine gs_n (fun hg => ?_) (fun hg => ?_) <;> conv => whnf) | (refine gs_nb (fun hg => ?_) (fun hg => ?_) <;> conv => whnf) | (refine gs_b (fun hg => ?_) (fun hg => ?_) <;> conv => whnf) | refine fin1 rfl rfl ?_))
  refine wc_qr tabOk mixed (by kernel_rfl) ?_; conv => whnf
  have n1 : (!decide (l0 = l1)) = true := by simp [h01]
  have n2 : decide (l0 ≠ l1) = true := by simp [h01]
  have n3 : decide (¬ l0 = l1) = true := by simp [h01]
  (repeat' (first | (refine wq_L tabOk rfl rfl rfl rfl rfl rfl c0 (run_q tabOk ?_); conv => whnf) | (refine wq_L tabOk rfl rfl rfl rfl rfl rfl c1 (run_q tabOk ?_); conv => whnf) | (refine wq_L tabOk rfl rfl rfl rfl rfl rfl c2 (run_q tabOk ?_); conv => whnf) | (refine wq_X tabOk 3 1 rfl rfl rfl rfl rfl rfl rfl (by omega) (by omega) (run_q tabOk ?_); conv => whnf) | (rw [n1]; (conv => whnf)) | (rw [n2]; (conv => whnf)) | (rw [n3]; (conv => whnf)) | (refine wq_add rfl rfl rfl rfl rfl rfl (by omega) (by omega) (run_q tabOk ?_); conv => whnf) | (refine wq_sub rfl rfl rfl rfl rfl rfl (by omega) (by omega) (run_q tabOk ?_); conv => whnf) | (refine gs_dt (by first | assumption | omega) ?_; conv => whnf) | (refine gs_df (by first | assumption | omega) ?_; conv => whnf) | (refine gs_t (by assumption) ?_; conv => whnf) | (refine gs_f (by assumption) ?_; conv => whnf) | (refine gs_d (fun hg => ?_) (fun hg => ?_) <;> conv => whnf) | (refine gs_n (fun hg => ?_) (fun hg => ?_) <;> conv => whnf) | (refine gs_nb (fun hg => ?_) (fun hg => ?_) <;> conv => whnf) | (refine gs_b (fun hg => ?_) (fun hg => ?_) <;> conv => whnf)))
  intro w7 hB7
  conv => whnf
  (repeat' (first | (refine wl_add rfl rfl rfl rfl rfl rfl (by omega) (by omega) (run_l tabOk ?_); conv => whnf) | (refine wl_sub rfl rfl rfl rfl rfl rfl (by omega) (by omega) (run_l tabOk ?_); conv => whnf) | (refine gs_dt (by first | assumption | omega) ?_; conv => whnf) | (refine gs_df (by first | assumption | omega) ?_; conv => whnf) | (refine gs_t (by assumption) ?_; conv => whnf) | (refine gs_f (by assumption) ?_; conv => whnf) | (refine gs_d (fun hg => ?_) (fun hg => ?_) <;> conv => whnf) | (refine gs_n (fun hg => ?_) (fun hg => ?_) <;> conv => whnf) | (refine gs_nb (fun hg => ?_) (fun hg => ?_) <;> conv => whnf) | (refine gs_b (fun hg => ?_) (fun hg => ?_) <;> conv => whnf) | refine fin1 rfl rfl ?_))
  exact ⟨rfl, bup (bup hB4 hB5) (bup hB6 hB7)⟩
end Go.Proofs.Ytjggjhgbobmkhaa

/- The reference's None and SameBools. -/
namespace Go.Proofs.Ytjggjhgbobmkhaa
open Go.RowKit
set_option linter.unusedVariables false
set_option linter.unusedSimpArgs false
set_option maxRecDepth 100000
end Go.Proofs.Ytjggjhgbobmkhaa
