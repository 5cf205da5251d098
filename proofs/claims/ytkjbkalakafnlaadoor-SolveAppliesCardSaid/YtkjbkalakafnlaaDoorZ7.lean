/- Several texts of one claim in one file: EY QR20 PM EM F23 O23 R23. -/
import Derived.Test.YtkjbkalakafnlaaDoorZ6
import Derived.Test.YtkjbkalakafnlaaDoorZ5
import Derived.Laws.CopyRow
/- copy; rows of rows of one's own. -/
namespace Go.Proofs.YtkjbkalakafnlaaDoor
open Go.RowKit
set_option linter.unusedVariables false
set_option linter.unusedSimpArgs false
section
variable {P : Program} {T : Nat → Option TI} {n : Nat} {Q : Post} {F : Fm} {w : World} {ops : Array Oper} {rest : List Oper} {o : Oper}
theorem put_setRow {g : Nat} {cur cs : List Value} {t : TypeId} (hb : w.heap[g]? = some (.cells cur.toArray t (0, 0))) : Put w (w.setRow g cs.toArray) g cs t :=
  ⟨by simp [World.setRow], setRow_heap w g cur.toArray _ t _ hb, ⟨rfl, rfl, rfl, by simp [World.setRow], fun k _ hk => setRow_other w g k _ (fun e => hk (by simp [e]))⟩⟩
/-- copy into a block of one's own, cell by cell. -/
theorem wl_copy (hT : TabOk P T) (e b : Nat) {t t2 t' : TypeId} {c : Call} {x y : Operand} {g dl dc sl sc : Nat} {a : Addr} {cur : List Value} (cs : List Value) (hb : w.heap[g]? = some (.cells cur.toArray t' (0, 0))) (hop : o.op = .call c) (hcal : c.callee = .builtin .copy) (hargs : c.args.toList = [x, y]) (htys : c.argTypes.toList = [t, t2])
    (hx : ev F x = .slice (some ⟨g, 0, none⟩) dl dc) (hy : ev F y = .slice (some a) sl sc) (h1 : appT T t e 1 b = true) (hg : o.guard = none) {d : Nat} (hd : o.dst = some d) (hn : Nat.blt d n = true)
    (hl : cs.length = min sl dl) (hsrc : ∀ j v, cs[j]? = some v → w.cell? (a.add j) = some v) (hfit : cs.length ≤ cur.length) (hone : ∀ v ∈ cs, v.oneCell' = true)
    (k : ∀ w1, Put w w1 g (cs ++ cur.drop cs.length) t' → wl P n ops rest Q (upd F d (goInt cs.length)) w1) : wl P n ops (o :: rest) Q F w := by
  obtain ⟨hu, j, z, hj, hz, hs, hby, hzs⟩ := appT_ok hT h1
  obtain ⟨callee, ⟨args⟩, ⟨tys⟩⟩ := c
  simp only at hcal hargs htys
  subst hcal hargs htys
  have hr := run_copy_row (P := P) w t t2 o.type e g 0 dl dc a sl sc cur.toArray t' cs hu (by rw [hj]; simp [hs]) hb hl hsrc (by simpa using hfit) hone
  refine wl_val hg hd hn ?_ (k _ (put_setRow (cs := cs ++ cur.drop cs.length) hb))
  simp at hr
  simp [execOp, hop, resolve, invoke, builtin, hx, hy, hr]
end
/-- A row of rows of numbers, all of the call's own: g holds the rows' values vs, bl are the blocks where they lie. -/
structure GMat (base g : Nat) (w : World) (vs : List Value) (M : List (List Int)) (bl : List Nat) : Prop where
  blk : w.heap[g]? = some (.cells vs.toArray 46 (0, 0))
  len : vs.length = M.length
  hg : base ≤ g
  gb : g ∉ bl
  lt : ∀ b ∈ bl, base ≤ b ∧ b < w.heap.size
  row : ∀ i, i < M.length → GInts base w vs[i]! M[i]! ∧ ∀ b, vs[i]!.ownBlock = some b → b ∈ bl
  ne : ∀ i j, i < M.length → j < M.length → i ≠ j → ∀ b, vs[i]!.ownBlock = some b → vs[j]!.ownBlock ≠ some b
section
variable {base g : Nat} {w w1 w2 : World} {vs : List Value} {M : List (List Int)} {bl : List Nat}
theorem GMat.stays (h : GMat base g w vs M bl) {row : Option Nat} (hg : w.grownBy w1 row) (h1 : ∀ b, row = some b → b ≠ g ∧ b ∉ bl) : GMat base g w1 vs M bl := by
  refine ⟨(hg.block g (blk_lt h.blk) (fun e => (h1 g e.symm).1 rfl)).trans h.blk, h.len, h.hg, h.gb, fun b hb => ⟨(h.lt b hb).1, Nat.lt_of_lt_of_le (h.lt b hb).2 hg.size⟩, fun i hi => ⟨(h.row i hi).1.stays row hg (by simp) ?_, (h.row i hi).2⟩, h.ne⟩
  cases ho : vs[i]!.ownBlock with
  | none => exact .inl rfl
  | some b => exact .inr fun e => (h1 b e.symm).2 ((h.row i hi).2 b ho)
theorem GMat.below (h : GMat base g w vs M bl) (hb : Below w.heap.size w w1) : GMat base g w1 vs M bl := h.stays (grown_of (row := none) hb) nofun
theorem get_set {α : Type} [Inhabited α] (xs : List α) (i j : Nat) (x : α) (hj : j < xs.length) : (xs.set i x)[j]! = if i = j then x else xs[j]! := by
  rw [getElem!_pos _ j (by simpa using hj), List.getElem_set]
  split
  · rfl
  · rw [getElem!_pos xs j hj]
theorem GMat.app (h : GMat base g w vs M bl) {i : Nat} (hi : i < M.length) {v' : Value} {x : Int} (hv : GInts base w1 v' (M[i]! ++ [x])) (hgr : w.grownBy w1 vs[i]!.ownBlock)
    (hob : v'.ownBlock = vs[i]!.ownBlock ∨ ∃ b, v'.ownBlock = some b ∧ w.heap.size ≤ b) (hp : Put w1 w2 g (vs.set i v') 46) : GMat base g w2 (vs.set i v') (M.set i (M[i]! ++ [x])) (bl ++ v'.ownBlock.toList) := by
  have hgl := blk_lt h.blk
  have hnew : ∀ b, v'.ownBlock = some b → b ∈ bl ∨ w.heap.size ≤ b := fun b e => by
    rcases hob with e1 | ⟨b', e1, e2⟩
    · exact .inl ((h.row i hi).2 b (by rw [← e1]; exact e))
    · rw [e] at e1; cases e1; exact .inr e2
  have hng : ∀ b, v'.ownBlock = some b → b ≠ g := fun b e e' => by
    subst e'
    rcases hnew b e with h1 | h1
    · exact h.gb h1
    · omega
  have hgi : ∀ b, vs[i]!.ownBlock = some b → b ≠ g := fun b e e' => h.gb (e' ▸ (h.row i hi).2 b e)
  refine ⟨hp.blk, by simp [h.len], h.hg, ?_, ?_, ?_, ?_⟩
  · intro hm
    rcases List.mem_append.1 hm with hm | hm
    · exact h.gb hm
    · exact hng g (mem_own hm) rfl
  · intro b hb
    rcases List.mem_append.1 hb with hb | hb
    · exact ⟨(h.lt b hb).1, by rw [hp.size]; exact Nat.lt_of_lt_of_le (h.lt b hb).2 hgr.size⟩
    · rw [hp.size]; exact hv.olt b (mem_own hb)
  · intro j hj
    have hj' : j < M.length := by simpa using hj
    rw [get_set _ _ _ _ (by rw [h.len]; exact hj'), get_set _ _ _ _ hj']
    by_cases e : i = j
    · rw [if_pos e, if_pos e]
      exact ⟨hv.other hp.grown (by simp) (fun b hb => hng b hb), fun b hb => List.mem_append_right _ (by rw [hb]; simp)⟩
    · rw [if_neg e, if_neg e]
      refine ⟨((h.row j hj').1.stays _ hgr (by simp) ?_).other hp.grown (by simp) (fun b hb e' => h.gb (e' ▸ (h.row j hj').2 b hb)), fun b hb => List.mem_append_left _ ((h.row j hj').2 b hb)⟩
      cases ho : vs[j]!.ownBlock with
      | none => exact .inl rfl
      | some b => exact .inr fun e' => h.ne j i hj' hi (fun q => e q.symm) b ho e'.symm
  · intro j k hj hk hjk b hb
    have hj' : j < M.length := by simpa using hj
    have hk' : k < M.length := by simpa using hk
    rw [get_set _ _ _ _ (by rw [h.len]; exact hj')] at hb
    rw [get_set _ _ _ _ (by rw [h.len]; exact hk')]
    have old : ∀ l, l < M.length → vs[l]!.ownBlock = some b → b < w.heap.size := fun l hl e => (h.lt b ((h.row l hl).2 b e)).2
    by_cases e : i = j
    · rw [if_pos e] at hb
      subst e
      rw [if_neg hjk]
      intro e2
      rcases hob with e1 | ⟨b', e1, e3⟩
      · exact h.ne i k hi hk' hjk b (by rw [← e1]; exact hb) e2
      · rw [hb] at e1; cases e1
        have := old k hk' e2
        omega
    · rw [if_neg e] at hb
      by_cases e5 : i = k
      · subst e5
        rw [if_pos rfl]
        intro e2
        rcases hob with e1 | ⟨b', e1, e3⟩
        · exact h.ne j i hj' hi hjk b hb (by rw [← e1]; exact e2)
        · rw [e2] at e1; cases e1
          have := old j hj' hb
          omega
      · rw [if_neg e5]
        exact h.ne j k hj' hk' hjk b hb
theorem GMat.init {n : Nat} (hb : w.heap[g]? = some (.cells (List.replicate n [Value.slice none 0 0]).flatten.toArray 46 (0, 0))) (hg : base ≤ g) : GMat base g w (List.replicate n (.slice none 0 0)) (List.replicate n []) [] := by
  have e : (List.replicate n [Value.slice none 0 0]).flatten = List.replicate n (.slice none 0 0) := by simp
  rw [e] at hb
  have hv : ∀ i, i < n → (List.replicate n (Value.slice none 0 0))[i]! = .slice none 0 0 := fun i hi => by rw [getElem!_pos _ i (by simpa using hi)]; simp
  refine ⟨hb, by simp, hg, by simp, by simp, fun i hi => ?_, fun i j hi hj _ b hb => ?_⟩
  · have hi' : i < n := by simpa using hi
    rw [hv i hi', getElem!_pos _ i hi]
    simp only [List.getElem_replicate]
    exact ⟨GRow.nil .., by simp [Value.ownBlock]⟩
  · rw [hv i (by simpa using hi)] at hb
    cases hb
theorem GMat.rowAt (h : GMat base g w vs M bl) {i : Nat} (hi : i < M.length) : ∃ A c, vs[i]! = .slice A M[i]!.length c ∧ M[i]!.length ≤ c ∧ RI w A M[i]! := (h.row i hi).1.row
theorem GMat.cell (h : GMat base g w vs M bl) {i : Nat} (hi : i < M.length) : w.cell? ((⟨g, 0, none⟩ : Addr).add (i * 1)) = some vs[i]! := by
  rw [Nat.mul_one, add_zero]
  have hi' : i < vs.length := by rw [h.len]; exact hi
  exact cell_blk h.blk (by rw [getElem!_pos vs i hi']; simp [hi'])
theorem GMat.rows (h : GMat base g w vs M bl) (hm : M.length ≤ 9223372036854775807) : RRows w (some ⟨g, 0, none⟩) M := by
  refine row_of_blk h.blk ⟨by rw [h.len]; simp, fun i hi => ?_⟩ hm
  obtain ⟨A, c, e1, e2, e3⟩ := h.rowAt hi
  have hi' : i < vs.length := by rw [h.len]; exact hi
  have e : (vs.drop (i * 1)).take 1 = [vs[i]!] := by
    rw [Nat.mul_one, List.drop_eq_getElem_cons hi', getElem!_pos vs i hi']
    rfl
  rw [e, e1]
  exact ⟨A, c, rfl, e2, e3⟩
end
theorem rowB_of_blk {w : World} {g : Nat} {xs : List Bool} {t : TypeId} (h : w.heap[g]? = some (.cells (vb xs).toArray t (0, 0))) (hm : xs.length ≤ 9223372036854775807) : RowR 1 dB w (some ⟨g, 0, none⟩) xs := by
  refine row_of_blk h ⟨by simp [vb], fun i hi => ?_⟩ hm
  have hi' : i < (vb xs).length := by simpa [vb] using hi
  have e : ((vb xs).drop (i * 1)).take 1 = [.bool xs[i]!] := by
    rw [Nat.mul_one, List.drop_eq_getElem_cons hi', getElem!_pos xs i hi]
    simp [vb]
  rw [e]
  rfl
end Go.Proofs.YtkjbkalakafnlaaDoor

/- A row of numbers whose front is taken away; facts that lie in the blocks of one owner. -/
namespace Go.Proofs.YtkjbkalakafnlaaDoor
open Go.RowKit
set_option linter.unusedVariables false
set_option linter.unusedSimpArgs false
def vi (xs : List Nat) : List Value := xs.map fun (x : Nat) => Value.int .i64 (x : Int)
theorem vi_len (xs : List Nat) : (vi xs).length = xs.length := by simp [vi]
theorem vi_app (xs ys : List Nat) : vi (xs ++ ys) = vi xs ++ vi ys := by simp [vi]
theorem vi_cons (x : Nat) (ys : List Nat) : vi (x :: ys) = .int .i64 (x : Int) :: vi ys := rfl
/-- A row of numbers of the call's own, wherever in its block it begins. -/
structure QRow (base : Nat) (V : Value) (xs : List Nat) (fp : List Nat) (w : World) : Prop where
  ex : (xs = [] ∧ fp = [] ∧ ∃ A, V = .slice A 0 0) ∨ ∃ (g : Nat) (pre post : List Value), fp = [g] ∧ V = .slice (some ⟨g, pre.length, none⟩) xs.length (xs.length + post.length) ∧ base ≤ g ∧
    w.heap[g]? = some (.cells (pre ++ vi xs ++ post).toArray 3 (0, 0)) ∧ xs.length + post.length ≤ 9223372036854775807
section
variable {base : Nat} {V : Value} {xs r fp : List Nat} {w w1 : World} {x : Nat}
theorem QRow.keep (h : QRow base V xs fp w) (hb : ∀ b ∈ fp, w1.heap[b]? = w.heap[b]?) : QRow base V xs fp w1 := by
  rcases h.ex with h | ⟨g, pre, post, h1, h2, h3, h4, h5⟩
  · exact ⟨.inl h⟩
  · exact ⟨.inr ⟨g, pre, post, h1, h2, h3, (hb g (by simp [h1])).trans h4, h5⟩⟩
theorem QRow.lt (h : QRow base V xs fp w) : ∀ b ∈ fp, base ≤ b ∧ b < w.heap.size := by
  rcases h.ex with ⟨_, rfl, _⟩ | ⟨g, pre, post, rfl, h2, h3, h4, h5⟩
  · simp
  · intro b hb; simp at hb; subst hb; exact ⟨h3, blk_lt h4⟩
theorem QRow.form (h : QRow base V xs fp w) : ∃ A c, V = .slice A xs.length c ∧ xs.length ≤ c := by
  rcases h.ex with ⟨rfl, _, A, rfl⟩ | ⟨g, pre, post, h1, h2, h3, h4, h5⟩
  · exact ⟨A, 0, rfl, by simp⟩
  · exact ⟨_, _, h2, by omega⟩
theorem QRow.nil (A : Option Addr) : QRow base (.slice A 0 0) [] [] w := ⟨.inl ⟨rfl, rfl, A, rfl⟩⟩
theorem QRow.head {A : Option Addr} {l c : Nat} (h : QRow base (.slice A l c) (x :: r) fp w) : ∃ ad, A = some ad ∧ w.cell? (ad.add (0 * 1)) = some (.int .i64 (x : Int)) := by
  rcases h.ex with ⟨h1, _⟩ | ⟨g, pre, post, h1, h2, h3, h4, h5⟩
  · cases h1
  · injection h2 with h2 _ _
    subst h2
    refine ⟨_, rfl, ?_⟩
    show w.cell? ⟨g, pre.length, none⟩ = _
    refine cell_blk h4 ?_
    simp [vi_cons]
theorem QRow.tail {A : Option Addr} {l c : Nat} (h : QRow base (.slice A l c) (x :: r) fp w) : ∃ fp', QRow base (.slice (cutA A 1 c 1) r.length (c - 1)) r fp' w ∧ ∀ b ∈ fp', b ∈ fp := by
  rcases h.ex with ⟨h1, _⟩ | ⟨g, pre, post, h1, h2, h3, h4, h5⟩
  · cases h1
  · injection h2 with h2 h6 h7
    subst h2 h7
    by_cases h0 : (x :: r).length + post.length = 1
    · have hr : r = [] := by cases r with | nil => rfl | cons => simp at h0; omega
      subst hr
      have hp : post = [] := by cases post with | nil => rfl | cons => simp at h0
      subst hp
      exact ⟨[], ⟨.inl ⟨rfl, rfl, _, rfl⟩⟩, by simp⟩
    · refine ⟨[g], ⟨.inr ⟨g, pre ++ [.int .i64 (x : Int)], post, rfl, ?_, h3, ?_, ?_⟩⟩, by simp [h1]⟩
      · have hlt : 1 < (x :: r).length + post.length := by simp at h0 ⊢; omega
        rw [cut_in hlt]
        simp
      · rw [h4]; simp [vi_cons]
      · simp at h5 ⊢; omega
end
section
variable {P : Program} {T : Nat → Option TI} {n : Nat} {Q : Post} {F : Fm} {w : World} {ops : Array Oper} {rest : List Oper} {o : Oper}
theorem own_q {base b' : Nat} {V : Value} {xs : List Nat} {m : Nat} (h : w.ownsRow b' 3 1 V m (vi xs)) (hb : base ≤ b') (hm : m = xs.length) : QRow base V xs V.ownBlock.toList w := by
  subst hm
  rcases h.2 with ⟨rfl, h0⟩ | ⟨g, cap, cur, rfl, hbg, hg, hnc, hcm, hcs, htake⟩
  · have : xs = [] := List.eq_nil_of_length_eq_zero h0
    subst this
    exact ⟨.inl ⟨rfl, rfl, _, rfl⟩⟩
  · refine ⟨.inr ⟨g, [], cur.toList.drop xs.length, rfl, ?_, by omega, ?_, ?_⟩⟩
    · have : xs.length + (cur.toList.drop xs.length).length = cap := by simp; omega
      rw [this]; rfl
    · rw [hg]
      have e : vi xs = cur.toList.take xs.length := by rw [Nat.mul_one] at htake; exact htake.symm
      rw [List.nil_append, e, List.take_append_drop]
    · simp only [maxLen] at hcm
      simp; omega
/-- append(q, v). -/
theorem qap_run (hT : TabOk P T) (hi8 : appT T 46 3 1 8 = true) {base : Nat} {V : Value} {xs fp : List Nat} {v : Nat} {c : Call} {x y : Operand} {g1 cc : Nat} {t' : TypeId}
    (h : QRow base V xs fp w) (hb1 : w.heap[g1]? = some (.cells #[.int .i64 (v : Int)] t' (0, 0))) (hop : o.op = .call c) (hcal : c.callee = .builtin .append) (hargs : c.args.toList = [x, y]) (htys : c.argTypes.toList = [46, 46])
    (hx : ev F x = V) (hy : ev F y = .slice (some ⟨g1, 0, none⟩) 1 cc) (hl : xs.length < 1099511627776) (hbase : base ≤ w.heap.size) :
    ∃ V' w1 fp', (execOp (ev F) o).run P w = .ok (.value V') w1 ∧ QRow base V' (xs ++ [v]) fp' w1 ∧ Kept fp w w1 ∧ ∀ b ∈ fp', b ∈ fp ∨ w.heap.size ≤ b := by
  obtain ⟨hu, j, z, hj, hz, hs, hby, hzs⟩ := appT_ok hT hi8
  obtain ⟨callee, ⟨args⟩, ⟨tys⟩⟩ := c
  simp only at hcal hargs htys
  subst hcal hargs htys
  have hnews : ∀ k u, ([Value.int .i64 (v : Int)] : List Value)[k]? = some u → w.cell? ((⟨g1, 0, none⟩ : Addr).add k) = some u := fun k u hu => by
    rw [add_zero]
    refine cell_blk hb1 ?_
    simpa using hu
  have hone : ∀ u ∈ ([Value.int .i64 (v : Int)] : List Value), u.oneCell' = true := by simp [Value.oneCell']
  have hvi : vi xs ++ [Value.int .i64 (v : Int)] = vi (xs ++ [v]) := by simp [vi]
  have grow : ∀ (b : Addr) (cap : Nat), V = .slice (some b) xs.length cap → cap < xs.length + 1 → (∀ k u, (vi xs)[k]? = some u → w.cell? (b.add k) = some u) → ∃ V' w1 fp', (execOp (ev F) o).run P w = .ok (.value V') w1 ∧ QRow base V' (xs ++ [v]) fp' w1 ∧ Kept fp w w1 ∧ ∀ b ∈ fp', b ∈ fp ∨ w.heap.size ≤ b := fun b cap hV hc holds => by
    obtain ⟨V', w1, hr, ho, hg⟩ := run_append_arg_grows (P := P) w 46 o.type 3 j z 1 8 hu hj hz hs hby hzs (by omega) b xs.length cap (vi xs) (by simp [vi_len]) holds ⟨g1, 0, none⟩ 1 cc [Value.int .i64 (v : Int)] (by simp) hnews hc (by simp only [maxLen]; omega) (by omega)
    rw [hvi] at ho
    refine ⟨V', w1, V'.ownBlock.toList, ?_, own_q ho hbase (by simp), Kept.grown (row := none) (Kept.refl _ _) hg nofun, fun b hb => .inr ?_⟩
    · rw [hV] at hx
      simp [execOp, hop, resolve, invoke, builtin, hx, hy, hr]
    · exact (ho.lt b (mem_own hb)).1
  rcases h.ex with ⟨rfl, rfl, A, hV⟩ | ⟨g, pre, post, hf, hV, h3, h4, h5⟩
  · cases A with
    | some b => exact grow b 0 hV (by simp) (by simp [vi])
    | none =>
      obtain ⟨V', w1, hr, ho, hg, _, hob⟩ := run_append_own_at (P := P) w base 46 o.type 3 j z 1 8 hu hj hz hs hby hzs (by omega) (.slice none 0 0) 0 [] (own_nil ..) ⟨g1, 0, none⟩ 1 cc _ (by simp) hnews hone (by simp only [maxLen]; omega) (by omega) hbase
      have e : ([] : List Value) ++ [Value.int .i64 (v : Int)] = vi ([] ++ [v]) := by simp [vi]
      rw [e] at ho
      refine ⟨V', w1, V'.ownBlock.toList, ?_, own_q ho (Nat.le_refl _) (by simp), Kept.grown (row := none) (Kept.refl _ _) hg nofun, fun b hb => .inr ?_⟩
      · rw [hV] at hx
        simp [execOp, hop, resolve, invoke, builtin, hx, hy, hr]
      · have hb' := mem_own hb
        rcases hob with e | e
        · rw [e] at hb'; cases hb'
        · rw [e] at hb'; cases hb'; exact Nat.le_refl _
  · by_cases hp : post = []
    · refine grow _ _ hV (by simp [hp]) fun k u hu => ?_
      rw [Addr.add_lit]
      refine cell_blk h4 ?_
      have hk := (List.getElem?_eq_some_iff.1 hu).1
      simp only [List.getElem?_toArray]
      rw [List.append_assoc, List.getElem?_append_right (by omega), Nat.add_sub_cancel_left, List.getElem?_append_left hk]
      exact hu
    · obtain ⟨p0, pr, rfl⟩ : ∃ p0 pr, post = p0 :: pr := by cases post with | nil => exact absurd rfl hp | cons a l => exact ⟨a, l, rfl⟩
      have hf' := run_firstCells_some (P := P) w j.size 1 ⟨g1, 0, none⟩ 1 cc [Value.int .i64 (v : Int)] (by simp [hs]) hnews
      have hst := run_storeCells_at P g (pre.length + xs.length) 3 [Value.int .i64 (v : Int)] 0 _ w h4 (by simp [vi_len]; omega) hone
      have hroom : xs.length + 1 ≤ xs.length + (p0 :: pr).length := by simp
      have hr : (Builtin.append_ #[46, 46] o.type #[.slice (some ⟨g, pre.length, none⟩) xs.length (xs.length + (p0 :: pr).length), .slice (some ⟨g1, 0, none⟩) 1 cc]).run P w = .ok (.slice (some ⟨g, pre.length, none⟩) (xs.length + 1) (xs.length + (p0 :: pr).length)) (w.setRow g (pre ++ vi (xs ++ [v]) ++ pr).toArray) := by
        have e : (((pre ++ vi xs ++ p0 :: pr).toArray.toList.take (pre.length + xs.length + 0)) ++ [Value.int .i64 (v : Int)] ++ (pre ++ vi xs ++ p0 :: pr).toArray.toList.drop (pre.length + xs.length + 0 + [Value.int .i64 (v : Int)].length)) = pre ++ vi (xs ++ [v]) ++ pr := by
          have hl1 : (pre ++ vi xs).length = pre.length + xs.length := by simp [vi_len]
          have e1 : pre ++ vi xs ++ p0 :: pr = (pre ++ vi xs) ++ ([p0] ++ pr) := by simp
          rw [e1]
          simp only [Nat.add_zero]
          rw [← hl1, List.take_left]
          have e2 : (pre ++ vi xs).length + [Value.int .i64 (v : Int)].length = ((pre ++ vi xs) ++ [p0]).length := by simp; omega
          rw [e2, ← List.append_assoc (pre ++ vi xs), List.drop_left, ← hvi]
          simp
        rw [e] at hst
        rw [hs] at hf'
        simp [Builtin.append_, run_underlying hu, sizeOf, typeInfo, hj, hs, Builtin.lenOf, hf', Addr.add_lit, hst]
      have hpt := put_setRow (cs := pre ++ vi (xs ++ [v]) ++ pr) h4
      have hq : QRow base (.slice (some ⟨g, pre.length, none⟩) (xs.length + 1) (xs.length + (p0 :: pr).length)) (xs ++ [v]) [g] (w.setRow g (pre ++ vi (xs ++ [v]) ++ pr).toArray) := ⟨.inr ⟨g, pre, pr, rfl, by simp; omega, h3, hpt.blk, by simp at h5 ⊢; omega⟩⟩
      have hkp : Kept fp w (w.setRow g (pre ++ vi (xs ++ [v]) ++ pr).toArray) := Kept.put (Kept.refl _ _) hpt (.inl (by simp [hf]))
      refine ⟨_, _, [g], ?_, hq, hkp, fun b hb => .inl (by rw [hf]; exact hb)⟩
      rw [hV] at hx
      simp only [List.length_cons, List.append_assoc] at hr hx
      simp [execOp, hop, resolve, invoke, builtin, hx, hy, hr]
end
/-! ### owners -/
/-- A fact that lies in blocks of owner k. -/
def AtF (O : Nat → Nat) (k : Nat) (w : World) (P : List Nat → World → Prop) : Prop := ∃ fp : List Nat, (∀ b ∈ fp, O b = k ∧ b < w.heap.size) ∧ ∀ w', (∀ b ∈ fp, w'.heap[b]? = w.heap[b]?) → P fp w'
def newO (O : Nat → Nat) (s k : Nat) : Nat → Nat := fun b => if b < s then O b else k
theorem newO_old {O : Nat → Nat} {s k b : Nat} (h : b < s) : newO O s k b = O b := if_pos h
theorem newO_new {O : Nat → Nat} {s k b : Nat} (h : s ≤ b) : newO O s k b = k := if_neg (by omega)
section
variable {O O1 O2 : Nat → Nat} {k j : Nat} {w w1 w2 : World} {P Q : List Nat → World → Prop} {f : Nat → List Nat → World → Prop}
theorem AtF.now (h : AtF O k w P) : ∃ fp, P fp w ∧ ∀ b ∈ fp, O b = k ∧ b < w.heap.size := let ⟨fp, h1, h2⟩ := h; ⟨fp, h2 w fun _ _ => rfl, h1⟩
theorem AtF.imp (h : AtF O k w P) (hi : ∀ fp w, P fp w → Q fp w) : AtF O k w Q := let ⟨fp, h1, h2⟩ := h; ⟨fp, h1, fun w' hw => hi _ _ (h2 w' hw)⟩
theorem AtF.keep (h : AtF O k w P) (hO : ∀ b, b < w.heap.size → O1 b = O b) (hs : w.heap.size ≤ w1.heap.size) (hb : ∀ b, b < w.heap.size → O b = k → w1.heap[b]? = w.heap[b]?) : AtF O1 k w1 P := by
  obtain ⟨fp, h1, h2⟩ := h
  exact ⟨fp, fun b hb' => ⟨by rw [hO b (h1 b hb').2]; exact (h1 b hb').1, Nat.lt_of_lt_of_le (h1 b hb').2 hs⟩, fun w' hw => h2 w' fun b hb' => (hw b hb').trans (hb b (h1 b hb').2 (h1 b hb').1)⟩
theorem AtF.tr : AtF O k w fun _ _ => True := ⟨[], by simp, fun _ _ => trivial⟩
/-- All facts, each by its owner. -/
def All (O : Nat → Nat) (w : World) (f : Nat → List Nat → World → Prop) : Prop := ∀ k, AtF O k w (f k)
def updF (f : Nat → List Nat → World → Prop) (k : Nat) (P : List Nat → World → Prop) : Nat → List Nat → World → Prop := fun j => if j = k then P else f j
/-- What blocks of other owners than 50 to 99 come to; the owners stay. -/
structure Stp (O O1 : Nat → Nat) (w w1 : World) : Prop where
  os : w1.os = w.os
  tape : w1.tape = w.tape
  output : w1.output = w.output
  size : w.heap.size ≤ w1.heap.size
  own : ∀ b, b < w.heap.size → O1 b = O b
  fr : ∀ b, b < w.heap.size → 50 ≤ O b → O b < 100 → w1.heap[b]? = w.heap[b]?
theorem Stp.refl (O : Nat → Nat) (w : World) : Stp O O w w := ⟨rfl, rfl, rfl, Nat.le_refl _, fun _ _ => rfl, fun _ _ _ _ => rfl⟩
theorem Stp.trans (h : Stp O O1 w w1) (k : Stp O1 O2 w1 w2) : Stp O O2 w w2 :=
  ⟨k.os.trans h.os, k.tape.trans h.tape, k.output.trans h.output, Nat.le_trans h.size k.size, fun b hb => (k.own b (Nat.lt_of_lt_of_le hb h.size)).trans (h.own b hb),
   fun b hb h1 h2 => (k.fr b (Nat.lt_of_lt_of_le hb h.size) (by rw [h.own b hb]; exact h1) (by rw [h.own b hb]; exact h2)).trans (h.fr b hb h1 h2)⟩
theorem Stp.up (hb : Below w.heap.size w w1) (k : Nat) : Stp O (newO O w.heap.size k) w w1 := ⟨hb.os, hb.tape, hb.output, hb.size, fun _ h => newO_old h, fun b h _ _ => hb.block b h⟩
theorem Stp.kept {rb : List Nat} (hk : Kept rb w w1) (hr : ∀ b ∈ rb, b < w.heap.size → O b = k) (h5 : k < 50 ∨ 100 ≤ k) (k' : Nat) : Stp O (newO O w.heap.size k') w w1 :=
  ⟨hk.os, hk.tape, hk.output, hk.size, fun _ h => newO_old h, fun b h h1 h2 => hk.block b h fun hm => by have := hr b hm h; omega⟩
theorem Stp.below {base : Nat} (h : Stp O O1 w w1) (hl : ∀ b, b < base → O b = 99) (hb : base ≤ w.heap.size) : Below base w w1 :=
  ⟨h.os, h.tape, h.output, h.size, fun b hlt => h.fr b (by omega) (by rw [hl b hlt]; omega) (by rw [hl b hlt]; omega)⟩
theorem Stp.low {base : Nat} (h : Stp O O1 w w1) (hl : ∀ b, b < base → O b = 99) (hb : base ≤ w.heap.size) : ∀ b, b < base → O1 b = 99 := fun b hlt => by rw [h.own b (by omega)]; exact hl b hlt
theorem AtF.stp (h : AtF O k w P) (hs : Stp O O1 w w1) (h1 : 50 ≤ k) (h2 : k < 100) : AtF O1 k w1 P := h.keep hs.own hs.size fun b hb e => hs.fr b hb (by omega) (by omega)
theorem All.up (h : All O w f) (hb : Below w.heap.size w w1) (k : Nat) : All (newO O w.heap.size k) w1 f := fun j => (h j).keep (fun _ => newO_old) hb.size fun b hlt _ => hb.block b hlt
/-- Owner k's fact becomes P. -/
theorem All.put {rb fp : List Nat} (h : All O w f) (hk : Kept rb w w1) (hr : ∀ b ∈ rb, b < w.heap.size → O b = k) (hfp : ∀ b ∈ fp, (b < w.heap.size → O b = k) ∧ b < w1.heap.size) (hP : ∀ w', (∀ b ∈ fp, w'.heap[b]? = w1.heap[b]?) → P fp w') : All (newO O w.heap.size k) w1 (updF f k P) := fun j => by
  unfold updF
  split
  · rename_i e
    subst e
    refine ⟨fp, fun b hb => ⟨?_, (hfp b hb).2⟩, hP⟩
    by_cases hlt : b < w.heap.size
    · rw [newO_old hlt]; exact (hfp b hb).1 hlt
    · rw [newO_new (by omega)]
  · rename_i e
    exact (h j).keep (fun _ => newO_old) hk.size fun b hb ho => hk.block b hb fun hm => e (by rw [← ho]; exact hr b hm hb)
theorem All.imp {f' : Nat → List Nat → World → Prop} (h : All O w f) (hi : ∀ j fp w, f j fp w → f' j fp w) : All O w f' := fun j => (h j).imp (hi j)
end
end Go.Proofs.YtkjbkalakafnlaaDoor

/- Matrices of truths: what a pass over constraints does to them (no program in sight). -/
namespace Go.Proofs.YtkjbkalakafnlaaDoor
open Go.RowKit
set_option linter.unusedVariables false
set_option linter.unusedSimpArgs false
abbrev Mat := List (List Bool)
def mg (M : Mat) (i o : Nat) : Bool := (M[i]!)[o]!
structure Shape (n c : Nat) (M : Mat) : Prop where
  rows : M.length = n
  cols : ∀ i, i < n → M[i]!.length = c
def LeM (M N : Mat) : Prop := ∀ i o, mg M i o = true → mg N i o = true
theorem LeM.refl (M : Mat) : LeM M M := fun _ _ h => h
theorem LeM.trans {M N O : Mat} (h : LeM M N) (k : LeM N O) : LeM M O := fun i o g => k i o (h i o g)
theorem mg_out {n c : Nat} {M : Mat} (h : Shape n c M) {i o : Nat} (hio : ¬ (i < n ∧ o < c)) : mg M i o = false := by
  unfold mg
  by_cases hi : i < n
  · have hl := h.cols i hi
    rw [List.getElem!_eq_getElem?_getD, List.getElem?_eq_none (by omega)]
    rfl
  · have : M[i]! = [] := by rw [List.getElem!_eq_getElem?_getD, List.getElem?_eq_none (by rw [h.rows]; omega)]; rfl
    rw [this]
    rfl
theorem mat_ext {n c : Nat} {M N : Mat} (hM : Shape n c M) (hN : Shape n c N) (h : ∀ i o, i < n → o < c → mg M i o = mg N i o) : M = N := by
  refine List.ext_getElem (by rw [hM.rows, hN.rows]) fun i h1 h2 => ?_
  have hi : i < n := by rw [← hM.rows]; exact h1
  have e1 : M[i]! = M[i] := getElem!_pos M i h1
  have e2 : N[i]! = N[i] := getElem!_pos N i h2
  have l1 := hM.cols i hi
  have l2 := hN.cols i hi
  rw [e1] at l1
  rw [e2] at l2
  refine List.ext_getElem (by rw [l1, l2]) fun o h3 h4 => ?_
  have := h i o hi (by rw [← l1]; exact h3)
  unfold mg at this
  rw [e1, e2, getElem!_pos _ o h3, getElem!_pos _ o h4] at this
  exact this
theorem mat_eq {n c : Nat} {M N : Mat} (hM : Shape n c M) (hN : Shape n c N) (h1 : LeM M N) (h2 : LeM N M) : M = N :=
  mat_ext hM hN fun i o _ _ => by
    cases h : mg M i o with
    | true => exact (h1 i o h).symm
    | false =>
      cases k : mg N i o with
      | false => rfl
      | true => rw [h2 i o k] at h; cases h
def setT (M : Mat) (i o : Nat) : Mat := M.set i ((M[i]!).set o true)
theorem setT_shape {n c : Nat} {M : Mat} (h : Shape n c M) {i o : Nat} (hi : i < n) : Shape n c (setT M i o) := by
  refine ⟨by simp [setT, h.rows], fun j hj => ?_⟩
  unfold setT
  rw [get_set _ _ _ _ (by rw [h.rows]; exact hj)]
  split
  · rename_i e; subst e; rw [List.length_set]; exact h.cols _ hi
  · exact h.cols j hj
theorem mg_setT {n c : Nat} {M : Mat} (h : Shape n c M) {i o j q : Nat} (hi : i < n) (ho : o < c) : mg (setT M i o) j q = if i = j ∧ o = q then true else mg M j q := by
  by_cases hjq : j < n ∧ q < c
  · unfold mg setT
    rw [get_set _ _ _ _ (by rw [h.rows]; exact hjq.1)]
    by_cases e : i = j
    · subst e
      rw [if_pos rfl]
      have hl := h.cols i hi
      rw [getElem!_pos _ q (by rw [List.length_set, hl]; exact hjq.2), List.getElem_set]
      by_cases e2 : o = q
      · simp [e2]
      · rw [if_neg e2, if_neg (by simp [e2]), getElem!_pos _ q (by rw [hl]; exact hjq.2)]
    · rw [if_neg e, if_neg (by simp [e])]
  · rw [mg_out (setT_shape h hi) hjq, mg_out h hjq, if_neg (by rintro ⟨rfl, rfl⟩; exact hjq ⟨hi, ho⟩)]
/-- A part of a pass: what it made of M is M'; was something new?  P: what the pass is to bring about; Q: what is known of M if nothing was new. -/
structure Tr (n c : Nat) (P : Mat → Prop) (Q : Prop) (M M' : Mat) (b : Bool) : Prop where
  sh : Shape n c M'
  le : LeM M M'
  least : ∀ N, LeM M N → P N → LeM M' N
  no : b = false → M' = M ∧ Q
  yes : b = true → M' ≠ M
section
variable {n c : Nat} {P P2 : Mat → Prop} {Q Q' : Prop} {M M1 M2 : Mat} {b b2 : Bool}
theorem Tr.start (hs : Shape n c M) (hq : Q) : Tr n c P Q M M false := ⟨hs, LeM.refl _, fun _ h _ => h, fun _ => ⟨rfl, hq⟩, nofun⟩
theorem Tr.weak (h : Tr n c P Q M M1 b) (hQ : b = false → M1 = M → Q → Q') : Tr n c P Q' M M1 b := ⟨h.sh, h.le, h.least, fun e => ⟨(h.no e).1, hQ e (h.no e).1 (h.no e).2⟩, h.yes⟩
theorem Tr.step (hM : Shape n c M) (h : Tr n c P Q M M1 b) (k : Tr n c P2 (P2 M1) M1 M2 b2) (hP : ∀ N, LeM M1 N → P N → P2 N) (hQ : Q → P2 M → Q') : Tr n c P Q' M M2 (b || b2) := by
  refine ⟨k.sh, h.le.trans k.le, fun N hN hp => ?_, fun e => ?_, fun e he => ?_⟩
  · have h1 := h.least N hN hp
    exact k.least N h1 (hP N h1 hp)
  · simp only [Bool.or_eq_false_iff] at e
    obtain ⟨e1, q1⟩ := h.no e.1
    obtain ⟨e2, q2⟩ := k.no e.2
    subst e1
    exact ⟨e2, hQ q1 q2⟩
  · subst he
    have e1 : M1 = M2 := mat_eq h.sh hM k.le h.le
    subst e1
    cases hb : b with
    | true => exact h.yes hb rfl
    | false => rw [hb, Bool.false_or] at e; exact k.yes e rfl
theorem Tr.one (hM : Shape n c M) {i o : Nat} (hi : i < n) (ho : o < c) (hno : mg M i o = false) (hP : ∀ N, LeM M N → P N → mg N i o = true) : Tr n c P Q M (setT M i o) true := by
  refine ⟨setT_shape hM hi, fun j q h => by rw [mg_setT hM hi ho]; split <;> first | rfl | exact h, fun N hN hp j q h => ?_, nofun, fun _ e => ?_⟩
  · rw [mg_setT hM hi ho] at h
    split at h
    · rename_i e
      obtain ⟨rfl, rfl⟩ := e
      exact hP N hN hp
    · exact hN j q h
  · have := mg_setT hM hi ho (j := i) (q := o)
    rw [e, if_pos ⟨rfl, rfl⟩, hno] at this
    cases this
/-- What it brings about may be told otherwise. -/
theorem Tr.told (h : Tr n c P Q M M1 b) (hP : ∀ N, LeM M N → P2 N → P N) (hQ : Q → Q') : Tr n c P2 Q' M M1 b := ⟨h.sh, h.le, fun N hN hp => h.least N hN (hP N hN hp), fun e => ⟨(h.no e).1, hQ (h.no e).2⟩, h.yes⟩
/-- A whole pass: nothing was new just if all is kept. -/
theorem Tr.iff (h : Tr n c P (P M) M M1 b) (hM : Shape n c M) : b = false ↔ P M := by
  constructor
  · exact fun e => (h.no e).2
  · intro hp
    cases hb : b with
    | false => rfl
    | true => exact absurd (mat_eq h.sh hM (h.least M (LeM.refl _) hp) h.le) (h.yes hb)
end
/-! ### what a constraint asks -/
def flowP (t f : Int) (N : Mat) : Prop := 0 ≤ t → 0 ≤ f → ∀ o, mg N f.toNat o = true → mg N t.toNat o = true
def objP (c : Con) (x : Cell) (N : Mat) : Prop :=
  (c.k = 3 → x.fn = false → flowP c.a x.v N) ∧ (c.k = 4 → x.fn = false → flowP x.v c.b N) ∧
  (c.k = 5 → x.fn = true → flowP c.a x.v N ∧ ∀ k, k < x.args.length → k < c.args.length → flowP x.args[k]! c.args[k]! N)
def srcOf (c : Con) : Nat := (if c.k = 4 then c.a else c.b).toNat
def ruleP (xs : List Cell) (c : Con) (N : Mat) : Prop :=
  (c.k = 1 → mg N c.a.toNat c.b.toNat = true) ∧ (c.k = 2 → flowP c.a c.b N) ∧ (¬ c.k = 1 → ¬ c.k = 2 → ∀ o, o < xs.length → mg N (srcOf c) o = true → objP c xs[o]! N)
def ClosedM (s : Sys) (N : Mat) : Prop := ∀ i, i < s.cons.length → ruleP s.cells s.cons[i]! N
def zeroM (n c : Nat) : Mat := List.replicate n (List.replicate c false)
theorem zeroM_shape (n c : Nat) : Shape n c (zeroM n c) := ⟨by simp [zeroM], fun i hi => by rw [getElem!_pos _ i (by simpa [zeroM] using hi)]; simp [zeroM]⟩
theorem zeroM_le (n c : Nat) (N : Mat) : LeM (zeroM n c) N := fun i o h => by
  have : mg (zeroM n c) i o = false := by
    by_cases hio : i < n ∧ o < c
    · unfold mg zeroM
      rw [getElem!_pos _ i (by simpa using hio.1), List.getElem_replicate, getElem!_pos _ o (by simpa using hio.2), List.getElem_replicate]
    · exact mg_out (zeroM_shape n c) hio
  rw [this] at h
  cases h
/-- The least map that keeps all constraints. -/
structure IsLeast (s : Sys) (M : Mat) : Prop where
  sh : Shape s.vars.toNat s.cells.length M
  closed : ClosedM s M
  least : ∀ N, ClosedM s N → LeM M N
theorem IsLeast.unique {s : Sys} {M N : Mat} (h : IsLeast s M) (k : IsLeast s N) : M = N := mat_eq h.sh k.sh (h.least N k.closed) (k.least M h.closed)
/-- How many truths there are. -/
def cnt (M : Mat) : Nat := (M.map fun r => r.countP id).sum
theorem cnt_le {n c : Nat} {M : Mat} (h : Shape n c M) : cnt M ≤ n * c := by
  have : ∀ l : Mat, (∀ r ∈ l, r.length = c) → (l.map fun r => r.countP id).sum ≤ l.length * c := by
    intro l
    induction l with
    | nil => simp
    | cons r l ih =>
      intro hl
      have h1 := ih fun x hx => hl x (by simp [hx])
      have h2 := List.countP_le_length (p := id) (l := r)
      rw [hl r (by simp)] at h2
      simp only [List.map_cons, List.sum_cons, List.length_cons, Nat.succ_mul]
      omega
  have h1 := this M fun r hr => by
    obtain ⟨i, hi, e⟩ := List.getElem_of_mem hr
    have := h.cols i (by rw [← h.rows]; exact hi)
    rwa [getElem!_pos M i hi, e] at this
  rw [h.rows] at h1
  exact h1
theorem cnt_lt {n c : Nat} {M N : Mat} (hM : Shape n c M) (hN : Shape n c N) (h : LeM M N) (hne : N ≠ M) : cnt M < cnt N := by
  have row : ∀ (a b : List Bool), a.length = b.length → (∀ o : Nat, a[o]! = true → b[o]! = true) → a.countP id ≤ b.countP id ∧ (a ≠ b → a.countP id < b.countP id) := by
    intro a
    induction a with
    | nil => intro b hb _; have : b = [] := List.eq_nil_of_length_eq_zero hb.symm; subst this; simp
    | cons x a ih =>
      intro b hb hle
      cases b with
      | nil => simp at hb
      | cons y b =>
        have h1 := ih b (by simpa using hb) fun o ho => by simpa using hle (o + 1) (by simpa using ho)
        have h0 : x = true → y = true := by simpa using hle 0
        refine ⟨?_, fun hne => ?_⟩
        · cases x <;> cases y <;> simp_all <;> omega
        · by_cases e : a = b
          · subst e
            cases x <;> cases y <;> simp_all
          · have := h1.2 e
            cases x <;> cases y <;> simp_all <;> omega
  have mat : ∀ (k : Mat) (l : Mat), k.length = l.length → (∀ i, i < k.length → k[i]!.length = l[i]!.length) → (∀ i o, mg k i o = true → mg l i o = true) → cnt k ≤ cnt l ∧ (k ≠ l → cnt k < cnt l) := by
    intro k
    induction k with
    | nil => intro l hl _ _; have : l = [] := List.eq_nil_of_length_eq_zero hl.symm; subst this; simp
    | cons x k ih =>
      intro l hl hc hle
      cases l with
      | nil => simp at hl
      | cons y l =>
        have h1 := ih l (by simpa using hl) (fun i hi => by simpa using hc (i + 1) (by simpa using hi)) fun i o ho => by simpa [mg] using hle (i + 1) o (by simpa [mg] using ho)
        have h0 := row x y (by simpa using hc 0 (by simp)) fun o ho => by simpa [mg] using hle 0 o (by simpa [mg] using ho)
        have e1 : cnt (x :: k) = x.countP id + cnt k := by simp [cnt]
        have e2 : cnt (y :: l) = y.countP id + cnt l := by simp [cnt]
        rw [e1, e2]
        refine ⟨by omega, fun hne => ?_⟩
        by_cases e : x = y
        · subst e
          have := h1.2 (fun e => hne (by rw [e]))
          omega
        · have := h0.2 e
          omega
  exact (mat M N (by rw [hM.rows, hN.rows]) (fun i hi => by rw [hM.rows] at hi; rw [hM.cols i hi, hN.cols i hi]) h).2 fun e => hne e.symm
end Go.Proofs.YtkjbkalakafnlaaDoor

/- Matrices of truths, in memory; what leaves all but their rows as it was. -/
namespace Go.Proofs.YtkjbkalakafnlaaDoor
open Go.RowKit
set_option linter.unusedVariables false
set_option linter.unusedSimpArgs false
/-- All that was there is as it was, but for the blocks of rb. -/
structure Keeps (rb : List Nat) (w w' : World) : Prop where
  os : w'.os = w.os
  tape : w'.tape = w.tape
  output : w'.output = w.output
  size : w.heap.size ≤ w'.heap.size
  block : ∀ k, k < w.heap.size → k ∉ rb → w'.heap[k]? = w.heap[k]?
section
variable {rb : List Nat} {w w1 w2 : World}
theorem Keeps.of (h : Below w.heap.size w w1) : Keeps rb w w1 := ⟨h.os, h.tape, h.output, h.size, fun k hk _ => h.block k hk⟩
theorem Keeps.refl (rb : List Nat) (w : World) : Keeps rb w w := Keeps.of (Below.refl _ _)
theorem Keeps.trans (h : Keeps rb w w1) (k : Keeps rb w1 w2) : Keeps rb w w2 :=
  ⟨k.os.trans h.os, k.tape.trans h.tape, k.output.trans h.output, Nat.le_trans h.size k.size, fun i hi hn => (k.block i (Nat.lt_of_lt_of_le hi h.size) hn).trans (h.block i hi hn)⟩
theorem Keeps.put (h : Keeps rb w w1) {g : Nat} {cs : List Value} {t : TypeId} (hp : Put w1 w2 g cs t) (hg : g ∈ rb) : Keeps rb w w2 :=
  h.trans ⟨hp.grown.os, hp.grown.tape, hp.grown.output, hp.grown.size, fun k hk hn => hp.grown.block k hk (by simp; intro e; subst e; exact hn hg)⟩
theorem Keeps.up (h : Keeps rb w w1) (k : Below w1.heap.size w1 w2) : Keeps rb w w2 := h.trans (Keeps.of k)
theorem Keeps.blk (h : Keeps rb w w1) {g : Nat} {o : Obj} (hb : w.heap[g]? = some o) (hn : g ∉ rb) : w1.heap[g]? = some o := (h.block g (blk_lt hb) hn).trans hb
theorem Keeps.below {w0 : World} {B : Nat} (h : Keeps rb w w1) (hb : Below B w0 w) (hB : B ≤ w.heap.size) (hr : ∀ k ∈ rb, B ≤ k) : Below B w0 w1 :=
  hb.trans ⟨h.os, h.tape, h.output, h.size, fun k hk => h.block k (Nat.lt_of_lt_of_le hk hB) fun hm => by have := hr k hm; omega⟩
end
/-- A matrix: its rows lie in the blocks rb, the row of their values at A. -/
structure BMat (base : Nat) (w : World) (A : Option Addr) (M : Mat) (rb : List Nat) (n nc : Nat) : Prop where
  sh : Shape n nc M
  len : rb.length = n
  cell : ∀ i, i < n → ∃ ad, A = some ad ∧ ad.block ∉ rb ∧ w.cell? (ad.add (i * 1)) = some (.slice (some ⟨rb[i]!, 0, none⟩) nc nc)
  blk : ∀ i, i < n → w.heap[rb[i]!]? = some (.cells (vb M[i]!).toArray 4 (0, 0))
  ge : ∀ k ∈ rb, base ≤ k ∧ k < w.heap.size
  inj : ∀ i j, i < n → j < n → i ≠ j → rb[i]! ≠ rb[j]!
section
variable {base : Nat} {w w1 : World} {A : Option Addr} {M : Mat} {rb : List Nat} {n nc : Nat}
theorem BMat.mem (h : BMat base w A M rb n nc) {i : Nat} (hi : i < n) : rb[i]! ∈ rb := mem_get (by rw [h.len]; exact hi)
theorem BMat.up (h : BMat base w A M rb n nc) (hb : Below w.heap.size w w1) : BMat base w1 A M rb n nc :=
  ⟨h.sh, h.len, fun i hi => let ⟨ad, e, hn, hc⟩ := h.cell i hi; ⟨ad, e, hn, cell_up hb hc⟩, fun i hi => blk_up hb (h.blk i hi), fun k hk => ⟨(h.ge k hk).1, Nat.lt_of_lt_of_le (h.ge k hk).2 hb.size⟩, h.inj⟩
theorem BMat.cells (h : BMat base w A M rb n nc) {i : Nat} (hi : i < n) : ∃ ad, A = some ad ∧ w.cell? (ad.add (i * 1)) = some (.slice (some ⟨rb[i]!, 0, none⟩) nc nc) := let ⟨ad, e, _, hc⟩ := h.cell i hi; ⟨ad, e, hc⟩
theorem BMat.bit (h : BMat base w A M rb n nc) {i o : Nat} (hi : i < n) (ho : o < nc) : w.cell? ((⟨rb[i]!, 0, none⟩ : Addr).add (o * 1)) = some (.bool (mg M i o)) := by
  rw [Nat.mul_one, add_zero]
  have hl := h.sh.cols i hi
  refine cell_blk (h.blk i hi) ?_
  have := List.getElem?_map (f := Value.bool) (l := M[i]!) (i := o)
  simp only [vb, List.getElem?_toArray, List.getElem?_map]
  rw [List.getElem?_eq_getElem (by rw [hl]; exact ho)]
  unfold mg
  rw [getElem!_pos (M[i]!) o (by rw [hl]; exact ho)]
  rfl
theorem BMat.put (h : BMat base w A M rb n nc) {i o : Nat} (hi : i < n) (hp : Put w w1 rb[i]! ((vb M[i]!).set o (.bool true)) 4) : BMat base w1 A (setT M i o) rb n nc := by
  refine ⟨setT_shape h.sh hi, h.len, fun j hj => ?_, fun j hj => ?_, fun k hk => ⟨(h.ge k hk).1, by rw [hp.size]; exact (h.ge k hk).2⟩, h.inj⟩
  · obtain ⟨ad, e, hn, hc⟩ := h.cell j hj
    refine ⟨ad, e, hn, ?_⟩
    refine (World.cell?_of_block ?_).trans hc
    rw [add_block]
    have hlt := World.block_lt_of_cell? w _ hc
    rw [add_block] at hlt
    refine hp.grown.block _ hlt fun e2 => hn ?_
    have e3 : ad.block = rb[i]! := by simpa using e2
    rw [e3]
    exact h.mem hi
  · by_cases e : i = j
    · subst e
      have e2 : (vb M[i]!).set o (.bool true) = vb (setT M i o)[i]! := by
        unfold setT
        rw [get_set _ _ _ _ (by rw [h.sh.rows]; exact hi), if_pos rfl]
        simp [vb, List.map_set]
      rw [← e2]
      exact hp.blk
    · have e2 : (setT M i o)[j]! = M[j]! := by
        unfold setT
        rw [get_set _ _ _ _ (by rw [h.sh.rows]; exact hj), if_neg e]
      rw [e2]
      exact hp.old (h.blk j hj) (fun e3 => h.inj j i hj hi (fun q => e q.symm) e3)
end
end Go.Proofs.YtkjbkalakafnlaaDoor

/- least.add, the reference's Flow: all of one row comes into another one. -/
namespace Go.Proofs.YtkjbkalakafnlaaDoor
open Go.RowKit
set_option linter.unusedVariables false
set_option linter.unusedSimpArgs false
set_option maxRecDepth 100000
def flowTo (M : Mat) (t f k : Nat) : Prop := ∀ o, o < k → mg M f o = true → mg M t o = true
section
variable {n nc : Nat} {tt fr : Int} {M M' : Mat} {b : Bool} {k : Nat}
theorem flow_set (hM : Shape n nc M) (hT : Tr n nc (flowP tt fr) (flowTo M tt.toNat fr.toNat k) M M' b) (h0 : 0 ≤ tt) (h1 : 0 ≤ fr) (ht : tt < n) (hk : k < nc) (hy : mg M' fr.toNat k = true) (hno : mg M' tt.toNat k = false) :
    Tr n nc (flowP tt fr) (flowTo M tt.toNat fr.toNat (k + 1)) M (setT M' tt.toNat k) true := by
  have h2 : Tr n nc (fun N => mg N fr.toNat k = true → mg N tt.toNat k = true) (mg M' fr.toNat k = true → mg M' tt.toNat k = true) M' (setT M' tt.toNat k) true :=
    Tr.one hT.sh (by omega) hk hno fun N hN hp => hp (hN _ _ hy)
  have := hT.step hM h2 (fun N _ hp => hp h0 h1 k) (Q' := flowTo M tt.toNat fr.toNat (k + 1)) (fun q p o ho hm => by
    rcases Nat.lt_or_ge o k with h | h
    · exact q o h hm
    · have : o = k := by omega
      subst this
      exact p hm)
  rwa [Bool.or_true] at this
theorem flow_same (hT : Tr n nc (flowP tt fr) (flowTo M tt.toNat fr.toNat k) M M' b) (hn : mg M' fr.toNat k = true → mg M' tt.toNat k = true) : Tr n nc (flowP tt fr) (flowTo M tt.toNat fr.toNat (k + 1)) M M' b :=
  hT.weak fun _ e q o ho hm => by
    rcases Nat.lt_or_ge o k with h | h
    · exact q o h hm
    · have : o = k := by omega
      subst this
      subst e
      exact hn hm
theorem flow_end (hM : Shape n nc M) (hT : Tr n nc (flowP tt fr) (flowTo M tt.toNat fr.toNat nc) M M' b) : Tr n nc (flowP tt fr) (flowP tt fr M) M M' b :=
  hT.weak fun _ _ q _ _ o hm => by
    by_cases ho : o < nc
    · exact q o ho hm
    · rw [mg_out hM (by omega)] at hm
      cases hm
end
theorem refFlow (M : Mat) (rb : List Nat) (n nc : Nat) (base : Nat) (A : Option Addr) (cap : Nat) (tt fr : Int) (w : World) (hM : BMat base w A M rb n nc) (ht : tt < n) (hf : fr < n) (hnc : nc ≤ 9223372036854775807) :
    Calls Tryd.prog 65 #[.slice A n cap, .int .i64 tt, .int .i64 fr] w fun e w' => ∃ M' b, e = .returned (.bool b) ∧ BMat base w' A M' rb n nc ∧ Keeps rb w w' ∧ Tr n nc (flowP tt fr) (flowP tt fr M) M M' b := by
  refine enterR (args := [.slice A n cap, .int .i64 tt, .int .i64 fr]) tabOk Tryd.func65 rfl Tryd.ntmps65 rfl ?_; conv => whnf
  (repeat' (first | (refine wl_add rfl rfl rfl rfl rfl rfl (by omega) (by omega) (run_l tabOk ?_); conv => whnf) | (refine wl_sub rfl rfl rfl rfl rfl rfl (by omega) (by omega) (run_l tabOk ?_); conv => whnf) | (refine wl_cvA tabOk rfl rfl rfl (by simp only [inK]; omega) rfl rfl rfl (run_l tabOk ?_); conv => whnf) | (refine wl_cvB tabOk rfl rfl rfl rfl rfl rfl (run_l tabOk ?_); conv => whnf) | (refine wl_rem rfl rfl rfl rfl rfl rfl (by omega) (by omega) (fun r hr hr0 hr1 hr2 => run_l tabOk ?_); conv => whnf) | (refine wl_quo rfl rfl rfl rfl rfl rfl (by omega) (by omega) (by simp only [inK]; omega) (run_l tabOk ?_); conv => whnf) | (refine wl_mul rfl rfl rfl rfl rfl rfl (by omega) (by omega) (run_l tabOk ?_); conv => whnf) | (refine gs_dt (by first | assumption | omega) ?_; conv => whnf) | (refine gs_df (by first | assumption | omega) ?_; conv => whnf) | (refine gs_t (by assumption) ?_; conv => whnf) | (refine gs_f (by assumption) ?_; conv => whnf) | (refine gs_d (fun hg => ?_) (fun hg => ?_) <;> conv => whnf) | (refine gs_n (fun hg => ?_) (fun hg => ?_) <;> conv => whnf) | (refine gs_nb (fun hg => ?_) (fun hg => ?_) <;> conv => whnf) | (refine gs_b (fun hg => ?_) (fun hg => ?_) <;> conv => whnf) | refine fin1 rfl rfl ?_))
  all_goals try exact ⟨M, false, rfl, hM, Keeps.refl _ _, Tr.start hM.sh (fun h1 h2 => by omega)⟩
  have h0 : 0 ≤ tt := by omega
  have h1 : 0 ≤ fr := by omega
  obtain ⟨ad, rfl, hca, hc⟩ := hM.cell fr.toNat (by omega)
  refine lp_loop tabOk (X := Nat × Mat × Bool) (fun x => [(0, .slice (some ad) n cap), (1, .int .i64 tt), (2, .int .i64 fr), (7, .bool x.2.2), (8, .int .i64 x.1)])
    (fun x wr => x.1 ≤ nc ∧ BMat base wr (some ad) x.2.1 rb n nc ∧ Keeps rb w wr ∧ Tr n nc (flowP tt fr) (flowTo M tt.toNat fr.toNat x.1) M x.2.1 x.2.2) (fun x => nc - x.1) (0, M, false) ⟨rfl, rfl, rfl, rfl, rfl, trivial⟩ ⟨by simp, hM, Keeps.refl _ _, Tr.start hM.sh (fun o ho => by simp at ho)⟩ ?_
  rintro ⟨k, M', b⟩ G wr ⟨hk, hMr, hK, hT⟩
  simp only at hk hMr hK hT
  conv => whnf
  obtain ⟨ad3, e3, hcf⟩ := hMr.cells (i := fr.toNat) (by omega)
  cases e3
  by_cases hlt : k < nc
  · have hbf := hMr.bit (i := fr.toNat) (by omega) hlt
    have hbt := hMr.bit (i := tt.toNat) (by omega) hlt
    obtain ⟨ad2, e2, hct⟩ := hMr.cells (i := tt.toNat) (by omega)
    cases e2
    (repeat' (first | (refine wl_L tabOk rfl rfl rfl rfl rfl rfl hbf (run_l tabOk ?_); conv => whnf) | (refine wl_L tabOk rfl rfl rfl rfl rfl rfl hcf (run_l tabOk ?_); conv => whnf) | (refine wl_L tabOk rfl rfl rfl rfl rfl rfl hct (run_l tabOk ?_); conv => whnf) | (refine wl_L tabOk rfl rfl rfl rfl rfl rfl hbt (run_l tabOk ?_); conv => whnf) | (refine wl_Xn tabOk 4 1 rfl rfl rfl rfl rfl rfl rfl (by omega) (run_l tabOk ?_); conv => whnf) | (refine wl_X tabOk 84 1 rfl rfl rfl rfl rfl rfl rfl (by omega) (by omega) (run_l tabOk ?_); conv => whnf) | (refine wl_add rfl rfl rfl rfl rfl rfl (by omega) (by omega) (run_l tabOk ?_); conv => whnf) | (refine wl_sub rfl rfl rfl rfl rfl rfl (by omega) (by omega) (run_l tabOk ?_); conv => whnf) | (refine wl_cvA tabOk rfl rfl rfl (by simp only [inK]; omega) rfl rfl rfl (run_l tabOk ?_); conv => whnf) | (refine wl_cvB tabOk rfl rfl rfl rfl rfl rfl (run_l tabOk ?_); conv => whnf) | (refine wl_rem rfl rfl rfl rfl rfl rfl (by omega) (by omega) (fun r hr hr0 hr1 hr2 => run_l tabOk ?_); conv => whnf) | (refine wl_quo rfl rfl rfl rfl rfl rfl (by omega) (by omega) (by simp only [inK]; omega) (run_l tabOk ?_); conv => whnf) | (refine wl_mul rfl rfl rfl rfl rfl rfl (by omega) (by omega) (run_l tabOk ?_); conv => whnf) | (refine gs_dt (by first | assumption | omega) ?_; conv => whnf) | (refine gs_df (by first | assumption | omega) ?_; conv => whnf) | (refine gs_t (by assumption) ?_; conv => whnf) | (refine gs_f (by assumption) ?_; conv => whnf) | (refine gs_d (fun hg => ?_) (fun hg => ?_) <;> conv => whnf) | (refine gs_n (fun hg => ?_) (fun hg => ?_) <;> conv => whnf) | (refine gs_nb (fun hg => ?_) (fun hg => ?_) <;> conv => whnf) | (refine gs_b (fun hg => ?_) (fun hg => ?_) <;> conv => whnf) | refine fin1 rfl rfl ?_))
    · rename_i hy
      have hno : mg M' tt.toNat k = false := by assumption
      refine wl_Se (j := k * 1) (v := .bool true) tabOk (hMr.blk tt.toNat (by omega)) rfl rfl rfl rfl rfl rfl (by unfold vb; rw [List.length_map, hMr.sh.cols _ (by omega)]; omega) rfl rfl ?_
      intro w1 hp
      rw [Nat.mul_one] at hp
      refine run_l tabOk ?_
      conv => whnf
      (repeat' (first | (refine wl_add rfl rfl rfl rfl rfl rfl (by omega) (by omega) (run_l tabOk ?_); conv => whnf) | (refine wl_sub rfl rfl rfl rfl rfl rfl (by omega) (by omega) (run_l tabOk ?_); conv => whnf) | (refine wl_cvA tabOk rfl rfl rfl (by simp only [inK]; omega) rfl rfl rfl (run_l tabOk ?_); conv => whnf) | (refine wl_cvB tabOk rfl rfl rfl rfl rfl rfl (run_l tabOk ?_); conv => whnf) | (refine wl_rem rfl rfl rfl rfl rfl rfl (by omega) (by omega) (fun r hr hr0 hr1 hr2 => run_l tabOk ?_); conv => whnf) | (refine wl_quo rfl rfl rfl rfl rfl rfl (by omega) (by omega) (by simp only [inK]; omega) (run_l tabOk ?_); conv => whnf) | (refine wl_mul rfl rfl rfl rfl rfl rfl (by omega) (by omega) (run_l tabOk ?_); conv => whnf) | (refine gs_dt (by first | assumption | omega) ?_; conv => whnf) | (refine gs_df (by first | assumption | omega) ?_; conv => whnf) | (refine gs_t (by assumption) ?_; conv => whnf) | (refine gs_f (by assumption) ?_; conv => whnf) | (refine gs_d (fun hg => ?_) (fun hg => ?_) <;> conv => whnf) | (refine gs_n (fun hg => ?_) (fun hg => ?_) <;> conv => whnf) | (refine gs_nb (fun hg => ?_) (fun hg => ?_) <;> conv => whnf) | (refine gs_b (fun hg => ?_) (fun hg => ?_) <;> conv => whnf) | refine fin1 rfl rfl ?_))
      exact ⟨(k + 1, setT M' tt.toNat k, true), ⟨rfl, rfl, rfl, rfl, rfl, trivial⟩, ⟨by simp only; omega, hMr.put (by omega) hp, hK.put hp (hMr.mem (by omega)), flow_set hM.sh hT h0 h1 ht hlt (by assumption) hno⟩, by simp only; omega⟩
    all_goals exact ⟨(k + 1, M', b), ⟨rfl, rfl, rfl, rfl, rfl, trivial⟩, ⟨by simp only; omega, hMr, hK, flow_same hT (by simp_all)⟩, by simp only; omega⟩
  · have hkn : k = nc := by omega
    subst hkn
    (repeat' (first | (refine wl_L tabOk rfl rfl rfl rfl rfl rfl hcf (run_l tabOk ?_); conv => whnf) | (refine wl_X tabOk 84 1 rfl rfl rfl rfl rfl rfl rfl (by omega) (by omega) (run_l tabOk ?_); conv => whnf) | (refine wl_add rfl rfl rfl rfl rfl rfl (by omega) (by omega) (run_l tabOk ?_); conv => whnf) | (refine wl_sub rfl rfl rfl rfl rfl rfl (by omega) (by omega) (run_l tabOk ?_); conv => whnf) | (refine wl_cvA tabOk rfl rfl rfl (by simp only [inK]; omega) rfl rfl rfl (run_l tabOk ?_); conv => whnf) | (refine wl_cvB tabOk rfl rfl rfl rfl rfl rfl (run_l tabOk ?_); conv => whnf) | (refine wl_rem rfl rfl rfl rfl rfl rfl (by omega) (by omega) (fun r hr hr0 hr1 hr2 => run_l tabOk ?_); conv => whnf) | (refine wl_quo rfl rfl rfl rfl rfl rfl (by omega) (by omega) (by simp only [inK]; omega) (run_l tabOk ?_); conv => whnf) | (refine wl_mul rfl rfl rfl rfl rfl rfl (by omega) (by omega) (run_l tabOk ?_); conv => whnf) | (refine gs_dt (by first | assumption | omega) ?_; conv => whnf) | (refine gs_df (by first | assumption | omega) ?_; conv => whnf) | (refine gs_t (by assumption) ?_; conv => whnf) | (refine gs_f (by assumption) ?_; conv => whnf) | (refine gs_d (fun hg => ?_) (fun hg => ?_) <;> conv => whnf) | (refine gs_n (fun hg => ?_) (fun hg => ?_) <;> conv => whnf) | (refine gs_nb (fun hg => ?_) (fun hg => ?_) <;> conv => whnf) | (refine gs_b (fun hg => ?_) (fun hg => ?_) <;> conv => whnf) | refine fin1 rfl rfl ?_))
    exact ⟨M', b, rfl, hMr, hK, flow_end hM.sh hT⟩
end Go.Proofs.YtkjbkalakafnlaaDoor

/- least.object, least.rule. -/
namespace Go.Proofs.YtkjbkalakafnlaaDoor
open Go.RowKit
set_option linter.unusedVariables false
set_option linter.unusedSimpArgs false
set_option maxRecDepth 100000
theorem not_mem_new {base : Nat} {w : World} {A : Option Addr} {M : Mat} {rb : List Nat} {n nc : Nat} (h : BMat base w A M rb n nc) {g : Nat} (hg : w.heap.size ≤ g) : g ∉ rb := fun hm => by have := (h.ge g hm).2; omega
theorem Keeps.low {rb : List Nat} {w0 w w1 : World} {base : Nat} {A : Option Addr} {M : Mat} {n nc : Nat} (h : Keeps rb w w1) (hM : BMat base w A M rb n nc) (hb : Below w0.heap.size w0 w) (h0 : w0.heap.size ≤ base) : Below w0.heap.size w0 w1 :=
  h.below hb hb.size fun k hk => Nat.le_trans h0 (hM.ge k hk).1
/-- The j first arguments are through. -/
def argsTo (c : Con) (x : Cell) (j : Nat) (N : Mat) : Prop := flowP c.a x.v N ∧ ∀ k, k < j → k < x.args.length → k < c.args.length → flowP x.args[k]! c.args[k]! N
end Go.Proofs.YtkjbkalakafnlaaDoor

/- least.rule: a constraint is kept. -/
namespace Go.Proofs.YtkjbkalakafnlaaDoor
open Go.RowKit
set_option linter.unusedVariables false
set_option linter.unusedSimpArgs false
set_option maxRecDepth 100000
theorem stable_Kw (rb : List Nat) (w : World) : Stable (Keeps rb w) := fun _ _ h h' => h.up h'
theorem setT_same {n c : Nat} {M : Mat} (h : Shape n c M) {i o : Nat} (hi : i < n) (ho : o < c) (hy : mg M i o = true) : setT M i o = M :=
  mat_ext (setT_shape h hi) h fun j q _ _ => by
    rw [mg_setT h hi ho]
    split
    · rename_i e; obtain ⟨rfl, rfl⟩ := e; exact hy.symm
    · rfl
structure GoodC (n nc : Nat) (c : Con) : Prop where
  k : 1 ≤ c.k ∧ c.k ≤ 5
  a : c.a < n
  a0 : c.k < 5 → 0 ≤ c.a
  b0 : 0 ≤ c.b
  b1 : c.k = 1 → c.b < nc
  b : 2 ≤ c.k → c.b < n
  args : ∀ j, j < c.args.length → c.args[j]! < n
theorem goodC {n nc : Nat} {c : Con} (h : conOk n nc c = true) : GoodC n nc c := by
  simp only [conOk, Bool.and_eq_true, decide_eq_true_eq, inR, List.all_eq_true] at h
  obtain ⟨⟨⟨⟨⟨⟨h1, h2⟩, h3, h4⟩, h5, h6⟩, _⟩, _⟩, h7⟩ := h
  refine ⟨⟨h1, h2⟩, h4, fun hk => by rw [if_neg (by omega)] at h3; exact h3, h5, fun hk => by rw [if_pos hk] at h6; exact h6, fun hk => by rw [if_neg (by omega)] at h6; exact h6, fun j hj => (h7 _ (mem_get hj)).2⟩
structure GoodX (n : Nat) (x : Cell) : Prop where
  v0 : 0 ≤ x.v
  v : x.v < n
  args0 : ∀ j, j < x.args.length → 0 ≤ x.args[j]!
  args : ∀ j, j < x.args.length → x.args[j]! < n
theorem goodX {n : Nat} {x : Cell} (h : cellOk n x = true) : GoodX n x := by
  simp only [cellOk, Bool.and_eq_true, decide_eq_true_eq, inR, List.all_eq_true] at h
  exact ⟨h.1.1.1.1, h.1.1.1.2, fun j hj => (h.2 _ (mem_get hj)).1, fun j hj => (h.2 _ (mem_get hj)).2⟩
theorem grow_first {α : Type} [Inhabited α] {sz : Nat} {d : Dec α} {e : TypeId} {base : Nat} {w w1 : World} {v : Value} {zs : List α} {news : List Value} (hel : Elems sz d w news zs) (hd : ∀ (w w' : World) cs x, d w cs x → d w' cs x) (hown : w1.ownsRow base e sz v (0 + zs.length) ([] ++ news)) : GRow sz d e base w1 v zs [] := by
  rw [Nat.zero_add, List.nil_append] at hown
  exact ⟨⟨news, hown, fun w' _ => ⟨hel.1, fun i hi => hd _ _ _ _ (hel.2 i hi)⟩⟩, by simp, by simp⟩
/-- The k first objects are through. -/
def objsTo (xs : List Cell) (c : Con) (k : Nat) (M : Mat) : Prop := ∀ o, o < k → mg M (srcOf c) o = true → objP c xs[o]! M
end Go.Proofs.YtkjbkalakafnlaaDoor
