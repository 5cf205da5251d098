/- copy; rows of rows of one's own. -/
import Derived.Test.YtkjbkalakafnlaaDoorEX
import Derived.Test.YtkjbkalakafnlaaDoorU0
import Derived.Laws.CopyRow
namespace Go.Proofs.YtkjbkalakafnlaaDoor
open Go.RowKit
set_option linter.unusedVariables false
set_option linter.unusedSimpArgs false
section
variable {P : Program} {T : Nat → Option TI} {n : Nat} {Q : Post} {F : Fm} {w : World} {ops : Array Oper} {rest : List Oper} {o : Oper}
theorem put_setRow {g : Nat} {cur cs : List Value} {t : TypeId} (hb : w.heap[g]? = some (.cells cur.toArray t (0, 0))) : Put w (w.setRow g cs.toArray) g cs t :=
  ⟨by simp [World.setRow], setRow_heap w g cur.toArray _ t _ hb, ⟨rfl, rfl, rfl, by simp [World.setRow], fun k _ hk => setRow_other w g k _ (fun e => hk (by simp [e]))⟩⟩
/-- copy into a block of one's own, cell by cell. -/
theorem wl_copy (hT : TabOk P T) (e b : Nat) {t t2 t' : TypeId} {c : Call} {x y : Operand} {g dl dc sl sc : Nat} {a : Addr} {cur : List Value} (cs : List Value) (hb : w.heap[g]? = some (.cells cur.toArray t' (0, 0))) (hop : o.op = .call c) (hcal : c.callee = .builtin .copy) (hargs : c.args.toList = [x, y]) (htys : c.argTypes.toList = [t, t2])
    (hx : ev F x = .slice (some ⟨g, 0, none⟩) dl dc) (hy : ev F y = .slice (some a) sl sc) (h1 : appT T t e 1 b = true) (hg : o.guard = none) {d : Nat} (hd : o.dst = some d) (hn : Nat.blt d n = true)
    (hl : cs.length = min sl dl) (hsrc : ∀ j v, cs[j]? = some v → w.cell? (a.add j) = some v) (hfit : cs.length ≤ cur.length) (hone : ∀ v ∈ cs, v.oneCell' = true)
    (k : ∀ w1, Put w w1 g (cs ++ cur.drop cs.length) t' → wl P n ops rest Q (upd F d (goInt cs.length)) w1) : wl P n ops (o :: rest) Q F w := by
  obtain ⟨hu, j, z, hj, hz, hs, hby, hzs⟩ := appT_ok hT h1
  obtain ⟨callee, ⟨args⟩, ⟨tys⟩⟩ := c
  simp only at hcal hargs htys
  subst hcal hargs htys
  have hr := run_copy_row (P := P) w t t2 o.type e g 0 dl dc a sl sc cur.toArray t' cs hu (by rw [hj]; simp [hs]) hb hl hsrc (by simpa using hfit) hone
  refine wl_val hg hd hn ?_ (k _ (put_setRow (cs := cs ++ cur.drop cs.length) hb))
  simp at hr
  simp [execOp, hop, resolve, invoke, builtin, hx, hy, hr]
end
/-- A row of rows of numbers, all of the call's own: g holds the rows' values vs, bl are the blocks where they lie. -/
structure GMat (base g : Nat) (w : World) (vs : List Value) (M : List (List Int)) (bl : List Nat) : Prop where
  blk : w.heap[g]? = some (.cells vs.toArray 46 (0, 0))
  len : vs.length = M.length
  hg : base ≤ g
  gb : g ∉ bl
  lt : ∀ b ∈ bl, base ≤ b ∧ b < w.heap.size
  row : ∀ i, i < M.length → GInts base w vs[i]! M[i]! ∧ ∀ b, vs[i]!.ownBlock = some b → b ∈ bl
  ne : ∀ i j, i < M.length → j < M.length → i ≠ j → ∀ b, vs[i]!.ownBlock = some b → vs[j]!.ownBlock ≠ some b
section
variable {base g : Nat} {w w1 w2 : World} {vs : List Value} {M : List (List Int)} {bl : List Nat}
theorem GMat.stays (h : GMat base g w vs M bl) {row : Option Nat} (hg : w.grownBy w1 row) (h1 : ∀ b, row = some b → b ≠ g ∧ b ∉ bl) : GMat base g w1 vs M bl := by
  refine ⟨(hg.block g (blk_lt h.blk) (fun e => (h1 g e.symm).1 rfl)).trans h.blk, h.len, h.hg, h.gb, fun b hb => ⟨(h.lt b hb).1, Nat.lt_of_lt_of_le (h.lt b hb).2 hg.size⟩, fun i hi => ⟨(h.row i hi).1.stays row hg (by simp) ?_, (h.row i hi).2⟩, h.ne⟩
  cases ho : vs[i]!.ownBlock with
  | none => exact .inl rfl
  | some b => exact .inr fun e => (h1 b e.symm).2 ((h.row i hi).2 b ho)
theorem GMat.below (h : GMat base g w vs M bl) (hb : Below w.heap.size w w1) : GMat base g w1 vs M bl := h.stays (grown_of (row := none) hb) nofun
theorem get_set {α : Type} [Inhabited α] (xs : List α) (i j : Nat) (x : α) (hj : j < xs.length) : (xs.set i x)[j]! = if i = j then x else xs[j]! := by
  rw [getElem!_pos _ j (by simpa using hj), List.getElem_set]
  split
  · rfl
  · rw [getElem!_pos xs j hj]
theorem GMat.app (h : GMat base g w vs M bl) {i : Nat} (hi : i < M.length) {v' : Value} {x : Int} (hv : GInts base w1 v' (M[i]! ++ [x])) (hgr : w.grownBy w1 vs[i]!.ownBlock)
    (hob : v'.ownBlock = vs[i]!.ownBlock ∨ ∃ b, v'.ownBlock = some b ∧ w.heap.size ≤ b) (hp : Put w1 w2 g (vs.set i v') 46) : GMat base g w2 (vs.set i v') (M.set i (M[i]! ++ [x])) (bl ++ v'.ownBlock.toList) := by
  have hgl := blk_lt h.blk
  have hnew : ∀ b, v'.ownBlock = some b → b ∈ bl ∨ w.heap.size ≤ b := fun b e => by
    rcases hob with e1 | ⟨b', e1, e2⟩
    · exact .inl ((h.row i hi).2 b (by rw [← e1]; exact e))
    · rw [e] at e1; cases e1; exact .inr e2
  have hng : ∀ b, v'.ownBlock = some b → b ≠ g := fun b e e' => by
    subst e'
    rcases hnew b e with h1 | h1
    · exact h.gb h1
    · omega
  have hgi : ∀ b, vs[i]!.ownBlock = some b → b ≠ g := fun b e e' => h.gb (e' ▸ (h.row i hi).2 b e)
  refine ⟨hp.blk, by simp [h.len], h.hg, ?_, ?_, ?_, ?_⟩
  · intro hm
    rcases List.mem_append.1 hm with hm | hm
    · exact h.gb hm
    · exact hng g (mem_own hm) rfl
  · intro b hb
    rcases List.mem_append.1 hb with hb | hb
    · exact ⟨(h.lt b hb).1, by rw [hp.size]; exact Nat.lt_of_lt_of_le (h.lt b hb).2 hgr.size⟩
    · rw [hp.size]; exact hv.olt b (mem_own hb)
  · intro j hj
    have hj' : j < M.length := by simpa using hj
    rw [get_set _ _ _ _ (by rw [h.len]; exact hj'), get_set _ _ _ _ hj']
    by_cases e : i = j
    · rw [if_pos e, if_pos e]
      exact ⟨hv.other hp.grown (by simp) (fun b hb => hng b hb), fun b hb => List.mem_append_right _ (by rw [hb]; simp)⟩
    · rw [if_neg e, if_neg e]
      refine ⟨((h.row j hj').1.stays _ hgr (by simp) ?_).other hp.grown (by simp) (fun b hb e' => h.gb (e' ▸ (h.row j hj').2 b hb)), fun b hb => List.mem_append_left _ ((h.row j hj').2 b hb)⟩
      cases ho : vs[j]!.ownBlock with
      | none => exact .inl rfl
      | some b => exact .inr fun e' => h.ne j i hj' hi (fun q => e q.symm) b ho e'.symm
  · intro j k hj hk hjk b hb
    have hj' : j < M.length := by simpa using hj
    have hk' : k < M.length := by simpa using hk
    rw [get_set _ _ _ _ (by rw [h.len]; exact hj')] at hb
    rw [get_set _ _ _ _ (by rw [h.len]; exact hk')]
    have old : ∀ l, l < M.length → vs[l]!.ownBlock = some b → b < w.heap.size := fun l hl e => (h.lt b ((h.row l hl).2 b e)).2
    by_cases e : i = j
    · rw [if_pos e] at hb
      subst e
      rw [if_neg hjk]
      intro e2
      rcases hob with e1 | ⟨b', e1, e3⟩
      · exact h.ne i k hi hk' hjk b (by rw [← e1]; exact hb) e2
      · rw [hb] at e1; cases e1
        have := old k hk' e2
        omega
    · rw [if_neg e] at hb
      by_cases e5 : i = k
      · subst e5
        rw [if_pos rfl]
        intro e2
        rcases hob with e1 | ⟨b', e1, e3⟩
        · exact h.ne j i hj' hi hjk b hb (by rw [← e1]; exact e2)
        · rw [e2] at e1; cases e1
          have := old j hj' hb
          omega
      · rw [if_neg e5]
        exact h.ne j k hj' hk' hjk b hb
theorem GMat.init {n : Nat} (hb : w.heap[g]? = some (.cells (List.replicate n [Value.slice none 0 0]).flatten.toArray 46 (0, 0))) (hg : base ≤ g) : GMat base g w (List.replicate n (.slice none 0 0)) (List.replicate n []) [] := by
  have e : (List.replicate n [Value.slice none 0 0]).flatten = List.replicate n (.slice none 0 0) := by simp
  rw [e] at hb
  have hv : ∀ i, i < n → (List.replicate n (Value.slice none 0 0))[i]! = .slice none 0 0 := fun i hi => by rw [getElem!_pos _ i (by simpa using hi)]; simp
  refine ⟨hb, by simp, hg, by simp, by simp, fun i hi => ?_, fun i j hi hj _ b hb => ?_⟩
  · have hi' : i < n := by simpa using hi
    rw [hv i hi', getElem!_pos _ i hi]
    simp only [List.getElem_replicate]
    exact ⟨GRow.nil .., by simp [Value.ownBlock]⟩
  · rw [hv i (by simpa using hi)] at hb
    cases hb
theorem GMat.rowAt (h : GMat base g w vs M bl) {i : Nat} (hi : i < M.length) : ∃ A c, vs[i]! = .slice A M[i]!.length c ∧ M[i]!.length ≤ c ∧ RI w A M[i]! := (h.row i hi).1.row
theorem GMat.cell (h : GMat base g w vs M bl) {i : Nat} (hi : i < M.length) : w.cell? ((⟨g, 0, none⟩ : Addr).add (i * 1)) = some vs[i]! := by
  rw [Nat.mul_one, add_zero]
  have hi' : i < vs.length := by rw [h.len]; exact hi
  exact cell_blk h.blk (by rw [getElem!_pos vs i hi']; simp [hi'])
theorem GMat.rows (h : GMat base g w vs M bl) (hm : M.length ≤ 9223372036854775807) : RRows w (some ⟨g, 0, none⟩) M := by
  refine row_of_blk h.blk ⟨by rw [h.len]; simp, fun i hi => ?_⟩ hm
  obtain ⟨A, c, e1, e2, e3⟩ := h.rowAt hi
  have hi' : i < vs.length := by rw [h.len]; exact hi
  have e : (vs.drop (i * 1)).take 1 = [vs[i]!] := by
    rw [Nat.mul_one, List.drop_eq_getElem_cons hi', getElem!_pos vs i hi']
    rfl
  rw [e, e1]
  exact ⟨A, c, rfl, e2, e3⟩
end
theorem rowB_of_blk {w : World} {g : Nat} {xs : List Bool} {t : TypeId} (h : w.heap[g]? = some (.cells (vb xs).toArray t (0, 0))) (hm : xs.length ≤ 9223372036854775807) : RowR 1 dB w (some ⟨g, 0, none⟩) xs := by
  refine row_of_blk h ⟨by simp [vb], fun i hi => ?_⟩ hm
  have hi' : i < (vb xs).length := by simpa [vb] using hi
  have e : ((vb xs).drop (i * 1)).take 1 = [.bool xs[i]!] := by
    rw [Nat.mul_one, List.drop_eq_getElem_cons hi', getElem!_pos xs i hi]
    simp [vb]
  rw [e]
  rfl
end Go.Proofs.YtkjbkalakafnlaaDoor
