/- Two sets beside two rows of truths. -/
import Derived.Test.YtkmnhkfgjadppaaDoorL0303
import Derived.Test.YtkmnhkfgjadppaaDoorY03
import Derived.Test.YtkmnhkfgjadppaaDoorEX
namespace Go.Proofs.YtkmnhkfgjadppaaDoor
open Go.RowKit
set_option linter.unusedVariables false
set_option linter.unusedSimpArgs false
set_option maxRecDepth 100000
/-- What a row of truths says of a number. -/
def lk (us : List Bool) (n : Nat) : Bool := us[n]?.getD false
theorem lk_set {us : List Bool} {x m : Nat} (h : x < us.length) : lk (us.set x true) m = (lk us m || decide ((x : Int) = (m : Int))) := by
  unfold lk
  rw [List.getElem?_set]
  by_cases e : x = m
  · subst e; simp [h]
  · rw [if_neg e, decide_eq_false (by omega), Bool.or_false]
theorem lk_get {us : List Bool} {n : Nat} (h : n < us.length) : lk us n = us[n]! := by
  unfold lk
  rw [List.getElem?_eq_getElem h, getElem!_pos us n h]
  rfl
theorem lk_out {us : List Bool} {n : Nat} (h : us.length ≤ n) : lk us n = false := by
  unfold lk
  rw [List.getElem?_eq_none h]
  rfl
theorem lk_rep (k n : Nat) : lk (List.replicate k false) n = false := by
  unfold lk
  rw [List.getElem?_replicate]
  split <;> rfl
/-- Sets of numbers below 400 have few blocks, and small ones. -/
theorem few {bs : List Blk} {us : List Bool} (hw : WFB bs) (h : ∀ n, memB bs n = lk us n) (hl : us.length = 400) : bs.length ≤ 7 ∧ ∀ b ∈ bs, b.a < 7 := by
  have small : ∀ b ∈ bs, b.a < 7 := fun b hb => by
    have hr := hw.rng b hb
    obtain ⟨i, hi, hbit⟩ := bit_some hr.2.2.1 hr.2.2.2
    have hn := num_div b.a hr.1 i hi
    have h1 : memB bs (64 * b.a.toNat + i) = true := memB_iff.2 ⟨b, hb, hn.1.symm, by rw [hn.2]; exact hbit⟩
    rw [h] at h1
    rcases Nat.lt_or_ge (64 * b.a.toNat + i) 400 with h2 | h2
    · omega
    · rw [lk_out (by omega)] at h1; cases h1
  refine ⟨?_, small⟩
  have ge : ∀ j, j < bs.length → (j : Int) ≤ bs[j]!.a := fun j => by
    induction j with
    | zero => intro hj; exact (hw.rng _ (mem_getB hj)).1
    | succ j ih =>
      intro hj
      have h1 := ih (by omega)
      have h2 := hw.up j (j + 1) (by omega) hj
      omega
  rcases Nat.lt_or_ge 7 bs.length with h1 | h1
  · have := ge 7 h1
    have := small _ (mem_getB h1)
    omega
  · exact h1
structure PP (w0 w : World) (g1 : Nat) (S : List Blk) (f1 : List Nat) (ga : Nat) (us : List Bool) (g2 : Nat) (T : List Blk) (f2 : List Nat) (gb : Nat) (bs : List Bool) : Prop where
  s : OwnS w0 g1 w S f1
  t : OwnS w0 g2 w T f2
  d : ∀ b ∈ f1, b ∉ f2
  ha : w.heap[ga]? = some (.cells (vb us).toArray 4 (0, 0))
  hb : w.heap[gb]? = some (.cells (vb bs).toArray 4 (0, 0))
  la : us.length = 400
  lb : bs.length = 400
  ab : ga ≠ gb
  na : ga ∉ f1 ∧ ga ∉ f2
  nb : gb ∉ f1 ∧ gb ∉ f2
  g0 : w0.heap.size ≤ ga ∧ w0.heap.size ≤ gb
  ms : ∀ n, memB S n = lk us n
  mt : ∀ n, memB T n = lk bs n
section
variable {w0 w w1 w2 : World} {g1 g2 ga gb x : Nat} {S T S' : List Blk} {f1 f2 f1' : List Nat} {us bs us' : List Bool} {e : Ending}
theorem PP.swap (h : PP w0 w g1 S f1 ga us g2 T f2 gb bs) : PP w0 w g2 T f2 gb bs g1 S f1 ga us :=
  ⟨h.t, h.s, apart_sym h.d, h.hb, h.ha, h.lb, h.la, fun e => h.ab e.symm, ⟨h.nb.2, h.nb.1⟩, ⟨h.na.2, h.na.1⟩, ⟨h.g0.2, h.g0.1⟩, h.mt, h.ms⟩
theorem PP.up (h : PP w0 w g1 S f1 ga us g2 T f2 gb bs) (hB : Below w.heap.size w w1) : PP w0 w1 g1 S f1 ga us g2 T f2 gb bs :=
  ⟨h.s.up hB, h.t.up hB, h.d, blk_up hB h.ha, blk_up hB h.hb, h.la, h.lb, h.ab, h.na, h.nb, h.g0, h.ms, h.mt⟩
theorem PP.few1 (h : PP w0 w g1 S f1 ga us g2 T f2 gb bs) : S.length ≤ 7 ∧ ∀ b ∈ S, b.a < 7 := few h.s.set.wf h.ms h.la
theorem PP.few2 (h : PP w0 w g1 S f1 ga us g2 T f2 gb bs) : T.length ≤ 7 ∧ ∀ b ∈ T, b.a < 7 := h.swap.few1
/-- The first row is written. -/
theorem PP.put (h : PP w0 w g1 S f1 ga us g2 T f2 gb bs) (hp : Put w w1 ga (vb us') 4) (hl : us'.length = 400) (hm : ∀ n, memB S n = lk us' n) : PP w0 w1 g1 S f1 ga us' g2 T f2 gb bs := by
  have hk : Kept [ga] w w1 := (Kept.refl _ _).put hp (.inl (by simp))
  have hr : ∀ b ∈ [ga], w0.heap.size ≤ b := fun b hb => by rw [List.mem_singleton.1 hb]; exact h.g0.1
  exact ⟨h.s.kept hk (fun b hb hm => h.na.1 (List.mem_singleton.1 hm ▸ hb)) hr, h.t.kept hk (fun b hb hm => h.na.2 (List.mem_singleton.1 hm ▸ hb)) hr, h.d, hp.blk, hp.old h.hb (fun e => h.ab e.symm), hl, h.lb, h.ab, h.na, h.nb, h.g0, hm, h.mt⟩
/-- A number comes into the first set; the row follows. -/
theorem PP.add (h : PP w0 w g1 S f1 ga us g2 T f2 gb bs) (r : AddR w0.heap.size g1 w S f1 (x : Int) e w1 S' f1') (hp : Put w1 w2 ga (vb (us.set x true)) 4) (hx : x < 400) : PP w0 w2 g1 S' f1' ga (us.set x true) g2 T f2 gb bs := by
  have hga := h.s.add r
  have hk : Kept [ga] w1 w2 := (Kept.refl _ _).put hp (.inl (by simp))
  have hr : ∀ b ∈ [ga], w0.heap.size ≤ b := fun b hb => by rw [List.mem_singleton.1 hb]; exact h.g0.1
  have new : ∀ {g : Nat}, g ∉ f1 → g < w.heap.size → g ∉ f1' := fun hn hl hm => (r.new _ hm).elim hn (fun h1 => by omega)
  have la := blk_lt h.ha
  have lb := blk_lt h.hb
  refine ⟨hga.kept hk (fun b hb hm => new h.na.1 la (List.mem_singleton.1 hm ▸ hb)) hr, (h.t.kept r.kept (apart_sym h.d) h.s.far).kept hk (fun b hb hm => h.na.2 (List.mem_singleton.1 hm ▸ hb)) hr, apart_sym (apart_add h.t (apart_sym h.d) r.new), hp.blk, hp.old (r.kept.blk h.hb h.nb.1) (fun e => h.ab e.symm), by simpa using h.la, h.lb, h.ab, ⟨new h.na.1 la, h.na.2⟩, ⟨new h.nb.1 lb, h.nb.2⟩, h.g0, fun n => ?_, h.mt⟩
  rw [r.mem, lk_set (by rw [h.la]; exact hx), h.ms]
/-- The first set takes all of the other one; its row has done so before. -/
theorem PP.join (h : PP w0 w g1 S f1 ga us g2 T f2 gb bs) (hk : Kept [ga] w w1) (hs : w1.heap[ga]? = some (.cells (vb us').toArray 4 (0, 0))) (hl : us'.length = 400) (r : JoinR w0.heap.size g1 w1 S T e w2 S' f1') (hm : ∀ n, lk us' n = (lk us n || lk bs n)) : PP w0 w2 g1 S' f1' ga us' g2 T f2 gb bs := by
  have hr : ∀ b ∈ [ga], w0.heap.size ≤ b := fun b hb => by rw [List.mem_singleton.1 hb]; exact h.g0.1
  have hS := h.s.kept hk (fun b hb hm => h.na.1 (List.mem_singleton.1 hm ▸ hb)) hr
  have hT := h.t.kept hk (fun b hb hm => h.na.2 (List.mem_singleton.1 hm ▸ hb)) hr
  have hr1 : ∀ b ∈ [g1], w0.heap.size ≤ b := fun b hb => by rw [List.mem_singleton.1 hb]; exact hS.set.ge
  have new : ∀ {g : Nat}, g ∉ f1 → g < w1.heap.size → g ∉ f1' := fun hn hl hm => (r.new _ hm).elim (fun e => hn (e ▸ hS.g_in)) (fun h1 => by omega)
  have la := blk_lt hs
  have hb1 := hk.blk h.hb (fun e => h.ab (List.mem_singleton.1 e).symm)
  have lb := blk_lt hb1
  refine ⟨hS.join r, hT.kept r.kept (apart_g hS (apart_sym h.d)) hr1, apart_sym (apart_join hT hS (apart_sym h.d) r.new), r.kept.blk hs (fun e => h.na.1 (List.mem_singleton.1 e ▸ hS.g_in)), r.kept.blk hb1 (fun e => h.nb.1 (List.mem_singleton.1 e ▸ hS.g_in)), hl, h.lb, h.ab, ⟨new h.na.1 la, h.na.2⟩, ⟨new h.nb.1 lb, h.nb.2⟩, h.g0, fun n => ?_, h.mt⟩
  rw [r.mem, h.ms, h.mt, hm]
end
theorem AddR.up {base g : Nat} {w w1 w2 : World} {bs bs' : List Blk} {fp fp' : List Nat} {n : Int} {e : Ending} (r : AddR base g w bs fp n e w1 bs' fp') (hB : Below w1.heap.size w1 w2) : AddR base g w bs fp n e w2 bs' fp' :=
  ⟨r.ret, r.set.up hB, r.kept.up hB, r.new, r.mem, r.len⟩
theorem vb_set (us : List Bool) (x : Nat) (b : Bool) : (vb us).set (x * 1) (.bool b) = vb (us.set x b) := by simp [vb, List.map_set]
theorem put_vb {w w1 : World} {g x : Nat} {us : List Bool} {v : Value} {b : Bool} {t : TypeId} (hp : Put w w1 g ((vb us).set (x * 1) v) t) (hv : v = .bool b) : Put w w1 g (vb (us.set x b)) t := by
  subst hv
  rwa [vb_set] at hp
theorem vb_get {w : World} {g : Nat} {us : List Bool} (h : w.heap[g]? = some (.cells (vb us).toArray 4 (0, 0))) (x : Nat) (hx : x < us.length) : w.cell? ((⟨g, 0, none⟩ : Addr).add (x * 1)) = some (.bool us[x]!) := by
  rw [Nat.mul_one, add_zero]
  refine cell_blk h ?_
  simp only [vb, List.getElem?_toArray, List.getElem?_map]
  rw [List.getElem?_eq_getElem hx, getElem!_pos us x hx]
  rfl
theorem rep_flat (n : Nat) : (List.replicate n [Value.bool false]).flatten = vb (List.replicate n false) := by simp [vb]
/-- A row of truths, made place by place. -/
def rowK (f g : Nat → Bool) (k : Nat) : List Bool := (List.range 400).map fun j => if j < k then f j else g j
theorem rowK_len (f g : Nat → Bool) (k : Nat) : (rowK f g k).length = 400 := by simp [rowK]
theorem rowK_get (f g : Nat → Bool) (k : Nat) {j : Nat} (h : j < 400) : (rowK f g k)[j]! = if j < k then f j else g j := by
  rw [getElem!_pos _ j (by rw [rowK_len]; exact h)]
  simp [rowK]
theorem rowK_next (f g : Nat → Bool) {k : Nat} (h : k < 400) : (rowK f g k).set k (f k) = rowK f g (k + 1) := by
  refine List.ext_getElem (by simp [rowK]) fun j h1 h2 => ?_
  rw [List.getElem_set]
  simp only [rowK, List.getElem_map, List.getElem_range]
  by_cases e : k = j
  · subst e; rw [if_pos rfl, if_pos (by omega)]
  · rw [if_neg e]
    by_cases h3 : j < k
    · rw [if_pos h3, if_pos (by omega)]
    · rw [if_neg h3, if_neg (by omega)]
theorem rowK_zero {us : List Bool} (h : us.length = 400) (f : Nat → Bool) : rowK f (fun j => us[j]!) 0 = us := by
  refine List.ext_getElem (by rw [rowK_len, h]) fun j h1 h2 => ?_
  simp only [rowK, List.getElem_map, List.getElem_range, Nat.not_lt_zero, if_false]
  rw [getElem!_pos us j h2]
theorem rowK_rep (f : Nat → Bool) : rowK f (fun _ => false) 0 = List.replicate 400 false := by
  refine List.ext_getElem (by rw [rowK_len, List.length_replicate]) fun j h1 h2 => ?_
  simp only [rowK, List.getElem_map, List.getElem_range, Nat.not_lt_zero, if_false, List.getElem_replicate]
theorem lk_rowK (f g : Nat → Bool) (n : Nat) : lk (rowK f g 400) n = (decide (n < 400) && f n) := by
  by_cases h : n < 400
  · rw [lk_get (by rw [rowK_len]; exact h), rowK_get f g 400 h, if_pos h, decide_eq_true h, Bool.true_and]
  · rw [lk_out (by rw [rowK_len]; omega), decide_eq_false h]; rfl
theorem lk_dec {us : List Bool} (h : us.length = 400) (n : Nat) : lk us n = (decide (n < 400) && us[n]!) := by
  by_cases h1 : n < 400
  · rw [lk_get (by omega), decide_eq_true h1, Bool.true_and]
  · rw [lk_out (by omega), decide_eq_false h1]; rfl
/-- Is something new in the first k of the other one? Are the first k alike? -/
def anyK (us vs : List Bool) (k : Nat) : Bool := (List.range k).any fun j => vs[j]! && !us[j]!
def allK (us vs : List Bool) (k : Nat) : Bool := (List.range k).all fun j => us[j]! == vs[j]!
theorem anyK_next (us vs : List Bool) (k : Nat) : anyK us vs (k + 1) = (anyK us vs k || (vs[k]! && !us[k]!)) := by
  unfold anyK
  rw [List.range_succ, List.any_append]
  simp only [List.any_cons, List.any_nil, Bool.or_false]
theorem allK_next (us vs : List Bool) (k : Nat) : allK us vs (k + 1) = (allK us vs k && (us[k]! == vs[k]!)) := by
  unfold allK
  rw [List.range_succ, List.all_append]
  simp only [List.all_cons, List.all_nil, Bool.and_true]
theorem anyK_all {S T S' : List Blk} {us vs : List Bool} (hu : us.length = 400) (hv : vs.length = 400) (ms : ∀ n, memB S n = lk us n) (mt : ∀ n, memB T n = lk vs n) (hS : WFB S) (hS' : WFB S') (hm : ∀ n, memB S' n = (memB S n || memB T n)) : anyK us vs 400 = !decide (S' = S) := by
  rw [Bool.eq_iff_iff]
  unfold anyK
  rw [List.any_eq_true, Bool.not_eq_true', decide_eq_false_iff_not]
  constructor
  · rintro ⟨j, hj, h⟩ e
    have hj := List.mem_range.1 hj
    rw [Bool.and_eq_true] at h
    have h1 := hm j
    rw [e, ms, mt, lk_get (by omega), lk_get (by omega), h.1] at h1
    rw [h1] at h
    simp at h
  · intro hne
    apply Classical.byContradiction
    intro hno
    refine hne (canonB hS' hS fun n => ?_)
    rw [hm, ms, mt, lk_dec hu, lk_dec hv]
    by_cases h : n < 400
    · rw [decide_eq_true h, Bool.true_and, Bool.true_and]
      cases h1 : us[n]! <;> cases h2 : vs[n]!
      · rfl
      · exact absurd ⟨n, List.mem_range.2 h, by rw [h1, h2]; rfl⟩ hno
      · rfl
      · rfl
    · rw [decide_eq_false h]; rfl
theorem allK_all {S T : List Blk} {us vs : List Bool} (hu : us.length = 400) (hv : vs.length = 400) (ms : ∀ n, memB S n = lk us n) (mt : ∀ n, memB T n = lk vs n) (hS : WFB S) (hT : WFB T) : allK us vs 400 = decide (S = T) := by
  rw [Bool.eq_iff_iff, decide_eq_true_eq]
  unfold allK
  rw [List.all_eq_true]
  constructor
  · intro h
    refine canonB hS hT fun n => ?_
    rw [ms, mt, lk_dec hu, lk_dec hv]
    by_cases hn : n < 400
    · rw [eq_of_beq (h n (List.mem_range.2 hn))]
    · rw [decide_eq_false hn]; rfl
  · intro e j hj
    have hj := List.mem_range.1 hj
    have h1 := ms j
    rw [e, mt, lk_get (by omega), lk_get (by omega)] at h1
    rw [h1]
    simp
section
variable {w0 w w1 : World} {g1 g2 ga gb gl g' : Nat} {S T : List Blk} {f1 f2 f' : List Nat} {us vs : List Bool} {cs : List Value} {t : TypeId}
theorem PP.other (h : PP w0 w g1 S f1 ga us g2 T f2 gb vs) (hp : Put w w1 gl cs t) (hg : gl ∉ f1 ∧ gl ∉ f2 ∧ gl ≠ ga ∧ gl ≠ gb ∧ w0.heap.size ≤ gl) : PP w0 w1 g1 S f1 ga us g2 T f2 gb vs := by
  have hk : Kept [gl] w w1 := (Kept.refl _ _).put hp (.inl (by simp))
  have hr : ∀ b ∈ [gl], w0.heap.size ≤ b := fun b hb => by rw [List.mem_singleton.1 hb]; exact hg.2.2.2.2
  exact ⟨h.s.kept hk (fun b hb hm => hg.1 (List.mem_singleton.1 hm ▸ hb)) hr, h.t.kept hk (fun b hb hm => hg.2.1 (List.mem_singleton.1 hm ▸ hb)) hr, h.d, hp.old h.ha (fun e => hg.2.2.1 e.symm), hp.old h.hb (fun e => hg.2.2.2.1 e.symm), h.la, h.lb, h.ab, h.na, h.nb, h.g0, h.ms, h.mt⟩
theorem PP.copy (h : PP w0 w g1 S f1 ga us g2 T f2 gb vs) (hC : OwnS w g' w1 S f') : PP w0 w1 g' S f' ga us g2 T f2 gb vs := by
  have h1 := h.up hC.below
  refine ⟨hC.low h.s.below, h1.t, apart_sym (apart_new h.t hC), h1.ha, h1.hb, h1.la, h1.lb, h1.ab, ⟨fun hm => ?_, h1.na.2⟩, ⟨fun hm => ?_, h1.nb.2⟩, h1.g0, h1.ms, h1.mt⟩
  · have := hC.far ga hm; have := blk_lt h.ha; omega
  · have := hC.far gb hm; have := blk_lt h.hb; omega
end
theorem stable_Kw (w : World) (rb : List Nat) : Stable (fun w' => Kept rb w w') := fun _ _ h hb => h.up hb
theorem run_cutv {P : Program} {T : Nat → Option TI} {n : Nat} {Q : Post} {F : Fm} {w : World} {X : Type} (S : X → List (Nat × Value)) (R : X → World → Prop) {x y : Code} (tail : ∀ z G w, R z w → runC P T n y Q (upds G (S z)) w)
    (k : ∀ yv : Code, (∀ z F' w', holds F' (S z) → R z w' → runC P T n yv Q F' w') → runC P T n (.seq x yv) Q F w) : runC P T n (.seq x y) Q F w :=
  k y fun z F' w' h1 h2 => by have := tail z F' w' h2; rwa [upds_of_holds h1] at this
end Go.Proofs.YtkmnhkfgjadppaaDoor
