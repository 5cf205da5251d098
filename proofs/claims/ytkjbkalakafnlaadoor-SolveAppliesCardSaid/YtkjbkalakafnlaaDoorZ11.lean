/- Several texts of one claim in one file: EX4 SC20 SJ20 SP20. -/
import Derived.Test.YtkjbkalakafnlaaDoorZ10
import Derived.Test.YtkjbkalakafnlaaDoorZ6
/- Regions that draw their order: one invariant for all orders; the orders are checked over lists. -/
namespace Go.Proofs.YtkjbkalakafnlaaDoor
open Go.RowKit
set_option linter.unusedVariables false
set_option linter.unusedSimpArgs false
/-- All but the blocks of rb stays. -/
abbrev Kr (w : World) (rb : List Nat) : World → Prop := fun w' => Kept rb w w'
theorem stable_Kr (w : World) (rb : List Nat) : Stable (Kr w rb) := fun _ _ h h' => h.up h'
def nextL (l : List Oper) (S : List (List Bool)) : List (List Bool) := (S.flatMap fun st => (rdyL l st).map fun i => st.set i true).eraseDups
/-- All ways on, level by level. -/
def exL (l : List Oper) (oth : List Nat) (full : List Bool) : Nat → List (List Bool) → Bool
  | 0, S => S.all fun st => st == full
  | f + 1, S => (S.all fun st => !(rdyL l st).isEmpty && (rdyL l st).all fun i => oth.contains i) && exL l oth full f (nextL l S)
theorem exL_spec {l : List Oper} {oth : List Nat} {full : List Bool} {f : Nat} {S : List (List Bool)} (h : exL l oth full (f + 1) S = true) {st : List Bool} (hs : st ∈ S) : (rdyL l st).isEmpty = false ∧ (∀ i ∈ rdyL l st, i ∈ oth ∧ st.set i true ∈ nextL l S) ∧ exL l oth full f (nextL l S) = true := by
  simp only [exL, Bool.and_eq_true, List.all_eq_true, Bool.not_eq_true'] at h
  obtain ⟨h1, h2⟩ := h
  refine ⟨(h1 st hs).1, fun i hi => ⟨by simpa using (h1 st hs).2 i hi, ?_⟩, h2⟩
  unfold nextL
  rw [List.mem_eraseDups]
  exact List.mem_flatMap.2 ⟨st, hs, List.mem_map.2 ⟨i, hi, rfl⟩⟩
def othB (l : List Oper) (n : Nat) (oth : List Nat) : Bool := oth.all fun i => decide (i < n) && ((l[i]?).map fun o => o.guard.isNone).getD false
theorem exB_of_exL {l : List Oper} {oth : List Nat} {full : List Bool} {g n : Nat} (ho : othB l n oth = true) (hs : Region.seqB .any l.toArray g n full.toArray = true) : ∀ (f : Nat) (S : List (List Bool)) (listed : List Bool), exL l oth full f S = true → listed ∈ S → exB .any l.toArray g n f listed.toArray = true
  | 0, S, listed, h, hm => by
    have e : listed = full := by
      simp only [exL, List.all_eq_true] at h
      simpa using h listed hm
    subst e
    exact hs
  | f + 1, S, listed, h, hm => by
    obtain ⟨h1, h2, h3⟩ := exL_spec h hm
    simp only [exB, rdyL_eq, Bool.and_eq_true, List.all_eq_true]
    refine ⟨by rw [h1]; rfl, fun i hi => ?_⟩
    obtain ⟨h4, h5⟩ := h2 i hi
    have ho' := ho
    simp only [othB, List.all_eq_true, Bool.and_eq_true] at ho'
    obtain ⟨h6, h7⟩ := ho' i h4
    have e : (listed.set i true).toArray = listed.toArray.setIfInBounds i true := by simp
    rw [← e]
    exact ⟨⟨h6, by simpa using h7⟩, exB_of_exL ho hs f _ _ h3 h5⟩
def permL (l : List Oper) (n f : Nat) (oth : List Nat) (full : List Bool) : List Nat → List Bool → Bool
  | [], listed => exL l oth full f [listed]
  | k :: qs, listed => decide (k < n) && (rdyL l listed).contains k && Region.free .any l.toArray listed.toArray k && permL l n f oth full qs (listed.set k true)
theorem permB_of_permL {l : List Oper} {oth : List Nat} {full : List Bool} {g n f : Nat} (ho : othB l n oth = true) (hs : Region.seqB .any l.toArray g n full.toArray = true) : ∀ (qs : List Nat) (listed : List Bool), permL l n f oth full qs listed = true → permB .any l.toArray g n f qs listed.toArray = true
  | [], listed, h => exB_of_exL ho hs f [listed] listed h (by simp)
  | k :: qs, listed, h => by
    simp only [permL, Bool.and_eq_true] at h
    simp only [permB, rdyL_eq, Bool.and_eq_true]
    have e : (listed.set k true).toArray = listed.toArray.setIfInBounds k true := by simp
    rw [← e]
    exact ⟨⟨⟨h.1.1.1, h.1.1.2⟩, h.1.2⟩, permB_of_permL ho hs qs _ h.2⟩
theorem permL_leaf {l : List Oper} {oth : List Nat} {full : List Bool} {n f : Nat} : ∀ (qs : List Nat) (listed : List Bool), permL l n f oth full qs listed = true → exL l oth full f [setAllL qs listed] = true
  | [], listed, h => h
  | k :: qs, listed, h => by
    simp only [permL, Bool.and_eq_true] at h
    exact permL_leaf qs _ h.2
def fullL (n m : Nat) : List Bool := List.replicate n true ++ List.replicate (m - n) false
def permLB (l : List Oper) (qs oth : List Nat) (n : Nat) : Bool :=
  Region.noSelect l.toArray && decide (n < l.toArray.size) && decide (qs.length + oth.length = n) && Region.sinkB .any l.toArray n && Region.chainB .any l.toArray n && othB l n oth && Region.seqB .any l.toArray (l.length - n) n (fullL n l.length).toArray && permL l n oth.length oth (fullL n l.length) qs (List.replicate l.length false)
theorem permAll_of {l : List Oper} {qs oth : List Nat} {n : Nat} (h : permLB l qs oth n = true) : permAll l.toArray qs oth.length n = true := by
  simp only [permLB, Bool.and_eq_true] at h
  obtain ⟨⟨⟨⟨⟨⟨⟨h1, h2⟩, h3⟩, h4⟩, h5⟩, h6⟩, h7⟩, h8⟩ := h
  simp only [permAll, Bool.and_eq_true]
  refine ⟨⟨⟨⟨⟨h1, h2⟩, h3⟩, h4⟩, h5⟩, ?_⟩
  have := permB_of_permL (g := l.length - n) h6 h7 qs _ h8
  have e : (List.replicate l.length false).toArray = Array.replicate l.toArray.size false := by simp
  have e2 : l.toArray.size - n = l.length - n := by simp
  rw [e2, ← e]
  exact this
/-- What is listed of those that an operation waits for. -/
def depsL (o : Oper) (listed : List Bool) : Bool := o.after.toList.all fun e => !Region.binds .any e || listed.getD e.on false
section
variable {P : Program} {T : Nat → Option TI} {n : Nat} {Q : Post} {F : Fm} {w : World} {C : World → Prop}
theorem rdyL_spec {l : List Oper} {listed : List Bool} {i : Nat} (h : i ∈ rdyL l listed) : listed.getD i true = false ∧ ∃ o, l[i]? = some o ∧ depsL o listed = true := by
  simp only [rdyL, List.mem_filter, Bool.and_eq_true, Bool.not_eq_true'] at h
  refine ⟨h.2.1, ?_⟩
  have h2 := h.2.2
  cases ho : l[i]? with
  | none => rw [ho] at h2; cases h2
  | some o => rw [ho] at h2; exact ⟨o, rfl, h2⟩
/-- One invariant for all orders. -/
theorem exF_inv {l : List Oper} {oth : List Nat} {full : List Bool} {T' : Fm → World → Prop} (J : List Bool → Fm → World → Prop)
    (step : ∀ listed F W i o, J listed F W → C W → i ∈ oth → listed.getD i true = false → l[i]? = some o → depsL o listed = true → wb P n o F W fun F2 w2 => C w2 ∧ ∀ W', Below w2.heap.size w2 W' → C W' → J (listed.set i true) F2 W')
    (fin : ∀ F W, J full F W → C W → T' F W) : ∀ (f : Nat) (S : List (List Bool)) (listed : List Bool) (F : Fm) (W : World), exL l oth full f S = true → listed ∈ S → J listed F W → C W → exF P n l C T' f listed F W
  | 0, S, listed, F, W, h, hm, hJ, hC => by
    have e : listed = full := by
      simp only [exL, List.all_eq_true] at h
      simpa using h listed hm
    subst e
    exact fin F W hJ hC
  | f + 1, S, listed, F, W, h, hm, hJ, hC => by
    obtain ⟨_, hn, hx⟩ := exL_spec h hm
    unfold exF
    have key : ∀ L : List Nat, (∀ i ∈ L, i ∈ rdyL l listed) → allL (fun i => opF P n l i F W fun F2 w2 => C w2 ∧ ∀ W', Below w2.heap.size w2 W' → C W' → exF P n l C T' f (listed.set i true) F2 W') L := by
      intro L
      induction L with
      | nil => exact fun _ => trivial
      | cons i L ih =>
        intro hL
        refine ⟨?_, ih fun j hj => hL j (by simp [hj])⟩
        have hi := hL i (by simp)
        obtain ⟨h1, h2⟩ := hn i hi
        obtain ⟨h3, o, h4, h5⟩ := rdyL_spec hi
        show opF P n l i F W _
        unfold opF
        rw [h4]
        have hw := step listed F W i o hJ hC h1 h3 h4 h5
        have mono : ∀ F2 w2, (C w2 ∧ ∀ W', Below w2.heap.size w2 W' → C W' → J (listed.set i true) F2 W') → (C w2 ∧ ∀ W', Below w2.heap.size w2 W' → C W' → exF P n l C T' f (listed.set i true) F2 W') := fun F2 w2 hh => ⟨hh.1, fun W' hW' hC' => exF_inv J step fin f _ _ _ _ hx h2 (hh.2 W' hW' hC') hC'⟩
        refine ⟨hw.dst, ?_⟩
        rcases hw.go with ⟨v, w', a, b⟩ | ⟨fn, args, a, b⟩ | ⟨w', a, b⟩
        · exact .inl ⟨v, w', a, mono _ _ b⟩
        · exact .inr (.inl ⟨fn, args, a, b.mono fun e w' ⟨v, e1, e2⟩ => ⟨v, e1, mono _ _ e2⟩⟩)
        · exact .inr (.inr ⟨w', a, mono _ _ b⟩)
    exact key _ fun i hi => hi
/-- A region that draws its order, by one invariant: qs read alone, oth are the others ahead of the tail, which begins at m. -/
theorem wc_qy {id : Nat} {l : List Oper} (qs oth : List Nat) (m : Nat) (hC : Stable C) (hT : TabOk P T) (hm : P.follows .mixedOrders = true) (hB : permLB l qs oth m = true) (hCw : C w)
    (h : runQ P T n l.toArray C (opsL l qs) (fun F' => ∀ w1, C w1 → Below w.heap.size w w1 → ∃ J : List Bool → Fm → World → Prop, J (setAllL qs (List.replicate l.length false)) F' w1 ∧
      (∀ listed F W i o, J listed F W → C W → i ∈ oth → listed.getD i true = false → l[i]? = some o → depsL o listed = true → wb P n o F W fun F2 w2 => C w2 ∧ ∀ W', Below w2.heap.size w2 W' → C W' → J (listed.set i true) F2 W') ∧
      ∀ F2 W, J (fullL m l.length) F2 W → C W → runG P T n l.toArray (l.drop m) Q F2 W) F) : wc P n (.region id l.toArray true) Q F w := by
  have hB' := hB
  simp only [permLB, Bool.and_eq_true] at hB'
  have hleaf := permL_leaf qs _ hB'.2
  have mono : ∀ a, wpQB P l.toArray C (fun a' => ∃ F', Fr a' n F' ∧ (∀ w1, C w1 → Below w.heap.size w w1 → ∃ J : List Bool → Fm → World → Prop, J (setAllL qs (List.replicate l.length false)) F' w1 ∧
      (∀ listed F W i o, J listed F W → C W → i ∈ oth → listed.getD i true = false → l[i]? = some o → depsL o listed = true → wb P n o F W fun F2 w2 => C w2 ∧ ∀ W', Below w2.heap.size w2 W' → C W' → J (listed.set i true) F2 W') ∧
      ∀ F2 W, J (fullL m l.length) F2 W → C W → runG P T n l.toArray (l.drop m) Q F2 W)) (opsL l qs) a → wpQB P l.toArray C (fun a' => ∃ F', Fr a' n F' ∧ (∀ w1, C w1 → Below w.heap.size w w1 → exF P n l C (fun F2 W => runG P T n l.toArray (l.drop m) Q F2 W) oth.length (setAllL qs (List.replicate l.length false)) F' w1)) (opsL l qs) a := fun a ha =>
    wpQB_mono (fun a' ⟨F', h1, h2⟩ => ⟨F', h1, fun w1 h3 h4 => let ⟨J, j1, j2, j3⟩ := h2 w1 h3 h4; exF_inv J j2 j3 _ _ _ _ _ hleaf (by simp) j1 h3⟩) ha
  unfold wc
  intro a ha
  have hq := mono a ((run_q hT h).go a ha)
  rw [← opsL_eq] at hq
  refine wp_region_perm qs oth.length m hC hm (permAll_of hB) hCw (wpQB_mono ?_ hq)
  rintro a' ⟨F', h2, h3⟩ w1 hw1 hb1
  have := exA_of (T' := wpList P l.toArray (lift n Q) (l.drop m)) (T := fun F2 W => runG P T n l.toArray (l.drop m) Q F2 W) (fun a F W ha h => ?_) _ _ _ _ _ h2 (h3 w1 hw1 hb1)
  · rw [← setAllL_eq] at this
    have e : (List.replicate l.length false).toArray = Array.replicate l.toArray.size false := by simp
    rwa [e] at this
  · have := run_l hT h
    unfold wl at this
    exact this _ ha
theorem xn_run4 (hT : TabOk P T) (e s : Nat) {o : Oper} {t : TypeId} {x ix : Operand} {a : Addr} {len cap : Nat} {ki : IntKind} {i : Nat} (hop : o.op = .indexAddr t x ix) (hx : ev F x = .slice (some a) len cap) (hi : ev F ix = .int ki i) (h1 : sliceT T t e s = true) (hl : i < len) : (execOp (ev F) o).run P w = .ok (.value (.pointer (some (a.add (i * s))))) w := by
  obtain ⟨hu, hs⟩ := sliceT_ok (w := w) hT h1
  have h0 : (0 : Int) ≤ (i : Int) := by omega
  have h2 : (i : Int) < (len : Int) := by omega
  simp [execOp, hop, hx, hi, Instr.indexAt, asIntOf, run_und hu, hs, h2]
  intro hc
  omega
/-- A store, in any order. -/
theorem wb_S (hT : TabOk P T) {o : Oper} {K : Fm → World → Prop} {t t' : TypeId} {x y : Operand} {i : TI} {g off : Nat} {cs : List Value} {v : Value} (hb : w.heap[g]? = some (.cells cs.toArray t' (0, 0))) (hop : o.op = .store t x y) (hx : ev F x = .pointer (some ⟨g, off, none⟩)) (hy : ev F y = v)
    (hi : T t = some i) (h1 : i.size = 1) (hv : v.oneCell' = true) (hoff : off < cs.length) (hd : o.dst = none)
    (k : ∀ w1, Put w w1 g (cs.set off v) t' → K F w1) : wb P n o F w K := by
  refine ⟨by rw [hd]; rfl, .inr (.inr ⟨w.setCell ⟨g, off, none⟩ v, ?_, by rw [hd]; exact k _ (put_setCell hb v)⟩)⟩
  have hs := run_size (w := w) hT hi
  rw [h1] at hs
  have hc : w.cell? ⟨g, off, none⟩ = some cs[off] := cell_blk hb (by simp [hoff])
  have hf : w.frozen? ⟨g, off, none⟩ = false := by simp [World.frozen?, hb]
  cases v <;> simp_all [Value.oneCell', execOp, Instr.storeAt, Instr.sureAddr, storeVar, Value.cells, storeCells, store, Sem.run, Addr.add] <;> rfl
theorem wb_Se (hT : TabOk P T) {o : Oper} {K : Fm → World → Prop} {t t' : TypeId} {x y : Operand} {i : TI} {g j : Nat} {cs : List Value} {v : Value} (hb : w.heap[g]? = some (.cells cs.toArray t' (0, 0))) (hop : o.op = .store t x y) (hx : ev F x = .pointer (some ((⟨g, 0, none⟩ : Addr).add j))) (hy : ev F y = v)
    (hi : T t = some i) (h1 : i.size = 1) (hv : v.oneCell' = true) (hoff : j < cs.length) (hd : o.dst = none)
    (k : ∀ w1, Put w w1 g (cs.set j v) t' → K F w1) : wb P n o F w K :=
  wb_S (off := j) hT hb hop (by rw [hx, add_zero]) hy hi h1 hv hoff hd k
end
end Go.Proofs.YtkjbkalakafnlaaDoor

/- One of several rows of sets gets one more, in whatever order. -/
namespace Go.Proofs.YtkjbkalakafnlaaDoor
open Go.RowKit
set_option linter.unusedVariables false
set_option linter.unusedSimpArgs false
theorem ptrs_snoc (k : Nat) (g : Nat → Nat) (p : Nat) : ptrs (k + 1) (setN g k p) = ptrs k g ++ [ptrV p] := by
  unfold ptrs
  rw [List.range_succ, List.map_append]
  congr 1
  · refine List.map_congr_left fun v hv => ?_
    rw [setN_ne _ _ (by have := List.mem_range.1 hv; omega)]
  · simp [setN]
structure CP where
  ld : Nat
  bx : Nat
  bs : Nat
  ap : Nat
  sl : Nat
  sx : Nat
  ss : Nat
  sa : Nat
  kr : Nat
  ks : Nat
  kt : Nat
  V : Value
  g : Nat → Nat
  K : Nat
  base : Nat
def tmpP (h gs : Nat) : List Nat → World → Prop := fun fp w => fp = [h] ∧ w.heap[h]? = some (.cells #[ptrV gs] 88 (0, 0))
structure ChOk (p : CP) (b : Nat → Bool) (O : Nat → Nat) (F : Fm) (W : World) : Prop where
  l : b p.ld = true → F p.sl = p.V
  r : b p.ap = false → AtF O p.kr W (rowP p.base p.K p.V p.g)
  x : b p.bx = true → ∃ gs, F p.sx = ptrV gs ∧ AtF O p.ks W (fun fp w => PSet p.base gs w [] fp) ∧
    (b p.bs = true → b p.ap = false → ∃ h, F p.ss = .slice (some ⟨h, 0, none⟩) 1 1 ∧ AtF O p.kt W (tmpP h gs)) ∧
    (b p.ap = true → ∃ A c, F p.sa = .slice A (p.K + 1) c ∧ AtF O p.kr W (rowP p.base (p.K + 1) (.slice A (p.K + 1) c) (setN p.g p.K gs)))
  sb : b p.bs = true → b p.bx = true
  asb : b p.ap = true → b p.bs = true
  al : b p.ap = true → b p.ld = true
section
variable {p : CP} {b b' : Nat → Bool} {O O' : Nat → Nat} {F F' : Fm} {W W' : World}
theorem ChOk.fr (h : ChOk p b O F W) (hb : ∀ i, (i = p.ld ∨ i = p.bx ∨ i = p.bs ∨ i = p.ap) → b' i = b i) (hF : ∀ t, (t = p.sl ∨ t = p.sx ∨ t = p.ss ∨ t = p.sa) → F' t = F t) (hA : ∀ k P, (k = p.kr ∨ k = p.ks ∨ k = p.kt) → AtF O k W P → AtF O' k W' P) : ChOk p b' O' F' W' := by
  have h1 := hb p.ld (by simp)
  have h2 := hb p.bx (by simp)
  have h3 := hb p.bs (by simp)
  have h4 := hb p.ap (by simp)
  refine ⟨fun e => ?_, fun e => ?_, fun e => ?_, fun e => ?_, fun e => ?_, fun e => by rw [h1]; exact h.al (by rw [← h4]; exact e)⟩
  · rw [hF _ (by simp)]; exact h.l (by rw [← h1]; exact e)
  · exact hA _ _ (by simp) (h.r (by rw [← h4]; exact e))
  · obtain ⟨gs, a1, a2, a3, a4⟩ := h.x (by rw [← h2]; exact e)
    refine ⟨gs, by rw [hF _ (by simp)]; exact a1, hA _ _ (by simp) a2, fun e1 e2 => ?_, fun e1 => ?_⟩
    · obtain ⟨q, q1, q2⟩ := a3 (by rw [← h3]; exact e1) (by rw [← h4]; exact e2)
      exact ⟨q, by rw [hF _ (by simp)]; exact q1, hA _ _ (by simp) q2⟩
    · obtain ⟨A, c, q1, q2⟩ := a4 (by rw [← h4]; exact e1)
      exact ⟨A, c, by rw [hF _ (by simp)]; exact q1, hA _ _ (by simp) q2⟩
  · rw [h2]; exact h.sb (by rw [← h3]; exact e)
  · rw [h3]; exact h.asb (by rw [← h4]; exact e)
theorem AtF.up {P : List Nat → World → Prop} {k : Nat} (h : AtF O k W P) (hb : Below W.heap.size W W') (k' : Nat) : AtF (newO O W.heap.size k') k W' P := h.keep (fun _ => newO_old) hb.size fun b hlt _ => hb.block b hlt
theorem ChOk.up (h : ChOk p b O F W) (hb : Below W.heap.size W W') (k : Nat) : ChOk p b (newO O W.heap.size k) F W' := h.fr (fun _ _ => rfl) (fun _ _ => rfl) fun _ _ _ ha => ha.up hb k
/-- The load. -/
theorem ChOk.load (h : ChOk p b O F W) (hne : p.ld ≠ p.bx ∧ p.ld ≠ p.bs ∧ p.ld ≠ p.ap) (hs : p.sl ≠ p.sx ∧ p.sl ≠ p.ss ∧ p.sl ≠ p.sa) (hb : ∀ i, b' i = (b i || decide (i = p.ld))) (hF : F' = upd F p.sl p.V) : ChOk p b' O F' W := by
  have e0 : F' p.sl = p.V := by rw [hF]; simp [upd]
  have eF : ∀ t, t ≠ p.sl → F' t = F t := fun t ht => by rw [hF]; simp only [upd, nbeq_ne ht, cond_false]
  have eb : ∀ i, i ≠ p.ld → b' i = b i := fun i hi => by rw [hb]; simp [hi]
  have h2 := eb p.bx (Ne.symm hne.1)
  have h3 := eb p.bs (Ne.symm hne.2.1)
  have h4 := eb p.ap (Ne.symm hne.2.2)
  refine ⟨fun _ => e0, fun e => h.r (by rw [← h4]; exact e), fun e => ?_, fun e => by rw [h2]; exact h.sb (by rw [← h3]; exact e), fun e => by rw [h3]; exact h.asb (by rw [← h4]; exact e), fun _ => by rw [hb]; simp⟩
  obtain ⟨gs, a1, a2, a3, a4⟩ := h.x (by rw [← h2]; exact e)
  refine ⟨gs, by rw [eF _ (Ne.symm hs.1)]; exact a1, a2, fun e1 e2 => ?_, fun e1 => ?_⟩
  · obtain ⟨q, q1, q2⟩ := a3 (by rw [← h3]; exact e1) (by rw [← h4]; exact e2)
    exact ⟨q, by rw [eF _ (Ne.symm hs.2.1)]; exact q1, q2⟩
  · obtain ⟨A, c, q1, q2⟩ := a4 (by rw [← h4]; exact e1)
    exact ⟨A, c, by rw [eF _ (Ne.symm hs.2.2)]; exact q1, q2⟩
/-- A new set. -/
theorem ChOk.box (h : ChOk p b O F W) {g1 : Nat} {w1 : World} (hn : New W w1 g1 [.slice none 0 0] 91) (hbase : p.base ≤ W.heap.size) (hbx : b p.bx = false) (hne : p.bx ≠ p.ld ∧ p.bx ≠ p.bs ∧ p.bx ≠ p.ap) (hs : p.sx ≠ p.sl) (hb : ∀ i, b' i = (b i || decide (i = p.bx))) (hF : F' = upd F p.sx (ptrV g1)) :
    ChOk p b' (newO O W.heap.size p.ks) F' w1 := by
  have e0 : F' p.sx = ptrV g1 := by rw [hF]; simp [upd]
  have eF : ∀ t, t ≠ p.sx → F' t = F t := fun t ht => by rw [hF]; simp only [upd, nbeq_ne ht, cond_false]
  have eb : ∀ i, i ≠ p.bx → b' i = b i := fun i hi => by rw [hb]; simp [hi]
  have h1 := eb p.ld (Ne.symm hne.1)
  have h3 := eb p.bs (Ne.symm hne.2.1)
  have h4 := eb p.ap (Ne.symm hne.2.2)
  have nb : b p.bs = false := by cases q : b p.bs with | false => rfl | true => have := h.sb q; rw [hbx] at this; cases this
  have na : b p.ap = false := by cases q : b p.ap with | false => rfl | true => have := h.asb q; rw [nb] at this; cases this
  refine ⟨fun e => by rw [eF _ (Ne.symm hs)]; exact h.l (by rw [← h1]; exact e), fun e => (h.r na).up hn.below _, fun e => ?_, fun e => by rw [hb]; simp, fun e => (by rw [h4, na] at e; cases e), fun e => (by rw [h4, na] at e; cases e)⟩
  refine ⟨g1, e0, ⟨[g1], by simpa using ⟨newO_new (Nat.le_of_eq hn.at_.symm), blk_lt hn.blk⟩, fun w' hw' => ?_⟩, fun e1 => (by rw [h3, nb] at e1; cases e1), fun e1 => (by rw [h4, na] at e1; cases e1)⟩
  have hp := pset_new hn
  exact (hp.keep hw').lower hbase
/-- Its row of one. -/
theorem ChOk.one (h : ChOk p b O F W) {h1 gs : Nat} {w1 : World} (hgs : F p.sx = ptrV gs) (hn : New W w1 h1 [ptrV gs] 88) (hbx : b p.bx = true) (hbs : b p.bs = false) (hne : p.bs ≠ p.ld ∧ p.bs ≠ p.bx ∧ p.bs ≠ p.ap) (hs : p.ss ≠ p.sl ∧ p.ss ≠ p.sx) (hb : ∀ i, b' i = (b i || decide (i = p.bs))) (hF : F' = upd F p.ss (.slice (some ⟨h1, 0, none⟩) 1 1)) :
    ChOk p b' (newO O W.heap.size p.kt) F' w1 := by
  have e0 : F' p.ss = .slice (some ⟨h1, 0, none⟩) 1 1 := by rw [hF]; simp [upd]
  have eF : ∀ t, t ≠ p.ss → F' t = F t := fun t ht => by rw [hF]; simp only [upd, nbeq_ne ht, cond_false]
  have eb : ∀ i, i ≠ p.bs → b' i = b i := fun i hi => by rw [hb]; simp [hi]
  have h2 := eb p.ld (Ne.symm hne.1)
  have h3 := eb p.bx (Ne.symm hne.2.1)
  have h4 := eb p.ap (Ne.symm hne.2.2)
  have na : b p.ap = false := by cases q : b p.ap with | false => rfl | true => have := h.asb q; rw [hbs] at this; cases this
  refine ⟨fun e => by rw [eF _ (Ne.symm hs.1)]; exact h.l (by rw [← h2]; exact e), fun e => (h.r na).up hn.below _, fun e => ?_, fun e => by rw [h3]; exact hbx, fun e => (by rw [h4, na] at e; cases e), fun e => (by rw [h4, na] at e; cases e)⟩
  obtain ⟨gs', a1, a2, _, _⟩ := h.x hbx
  have : gs' = gs := by
    rw [hgs] at a1
    unfold ptrV at a1
    injection a1 with a1
    injection a1 with a1
    injection a1 with a1
    exact a1.symm
  subst this
  refine ⟨gs', by rw [eF _ (Ne.symm hs.2)]; exact a1, a2.up hn.below _, fun _ _ => ⟨h1, e0, [h1], by simpa using ⟨newO_new (Nat.le_of_eq hn.at_.symm), blk_lt hn.blk⟩, fun w' hw' => ⟨rfl, (hw' h1 (by simp)).trans hn.blk⟩⟩, fun e1 => (by rw [h4, na] at e1; cases e1)⟩
/-- It is appended. -/
theorem ChOk.app (h : ChOk p b O F W) {A : Option Addr} {cap gs : Nat} {w1 : World} (hgs : F p.sx = ptrV gs) (hown : w1.ownsRow p.base 88 1 (.slice A (p.K + 1) cap) (p.K + 1) (ptrs p.K p.g ++ [ptrV gs])) (hg : W.grownBy w1 p.V.ownBlock)
    (hob : (Value.slice A (p.K + 1) cap).ownBlock = p.V.ownBlock ∨ (Value.slice A (p.K + 1) cap).ownBlock = some W.heap.size) (hV : ∀ x ∈ p.V.ownBlock.toList, O x = p.kr ∧ x < W.heap.size) (hks : p.ks ≠ p.kr) (hbs : b p.bs = true) (hap : b p.ap = false) (hne : p.ap ≠ p.ld ∧ p.ap ≠ p.bx ∧ p.ap ≠ p.bs) (hs : p.sa ≠ p.sl ∧ p.sa ≠ p.sx) (hld : b p.ld = true) (hb : ∀ i, b' i = (b i || decide (i = p.ap))) (hF : F' = upd F p.sa (.slice A (p.K + 1) cap)) :
    ChOk p b' (newO O W.heap.size p.kr) F' w1 := by
  have e0 : F' p.sa = .slice A (p.K + 1) cap := by rw [hF]; simp [upd]
  have eF : ∀ t, t ≠ p.sa → F' t = F t := fun t ht => by rw [hF]; simp only [upd, nbeq_ne ht, cond_false]
  have eb : ∀ i, i ≠ p.ap → b' i = b i := fun i hi => by rw [hb]; simp [hi]
  have h2 := eb p.ld (Ne.symm hne.1)
  have h3 := eb p.bx (Ne.symm hne.2.1)
  have h4 := eb p.bs (Ne.symm hne.2.2)
  have hat : b' p.ap = true := by rw [hb]; simp
  refine ⟨fun e => by rw [eF _ (Ne.symm hs.1)]; exact h.l (by rw [← h2]; exact e), fun e => (by rw [hat] at e; cases e), fun e => ?_, fun e => by rw [h3]; exact h.sb (by rw [← h4]; exact e), fun e => by rw [h4]; exact hbs, fun _ => by rw [h2]; exact hld⟩
  obtain ⟨gs', a1, a2, _, _⟩ := h.x (h.sb hbs)
  have : gs' = gs := by
    rw [hgs] at a1
    unfold ptrV at a1
    injection a1 with a1
    injection a1 with a1
    injection a1 with a1
    exact a1.symm
  subst this
  have hlt := hown.lt
  refine ⟨gs', by rw [eF _ (Ne.symm hs.2)]; exact a1, a2.keep (fun _ => newO_old) hg.size fun x hx ho => hg.block x hx fun e => hks (by rw [← ho]; exact (hV x (by rw [← e]; simp)).1), fun _ e1 => (by rw [hat] at e1; cases e1), fun _ => ⟨A, cap, e0, (Value.slice A (p.K + 1) cap).ownBlock.toList, fun x hx => ⟨?_, (hlt x (mem_own hx)).2⟩, fun w' hw' => ⟨rfl, ?_⟩⟩⟩
  · have hx' := mem_own hx
    rcases hob with e | e
    · have := hV x (by rw [← e]; exact hx)
      rw [newO_old this.2]; exact this.1
    · rw [e] at hx'; cases hx'; exact newO_new (Nat.le_refl _)
  · rw [ptrs_snoc]
    refine ⟨hown.1, hown.2.imp id ?_⟩
    rintro ⟨g, cp, cur, h5, h6, h7, h8⟩
    exact ⟨g, cp, cur, h5, h6, (hw' g (by rw [h5]; simp [Value.ownBlock])).trans h7, h8⟩
end
end Go.Proofs.YtkjbkalakafnlaaDoor

/- solve.Least: three rows get one set more each, in whatever order. -/
namespace Go.Proofs.YtkjbkalakafnlaaDoor
open Go.RowKit
set_option linter.unusedVariables false
set_option linter.unusedSimpArgs false
def vsM (m : Mem) (a : Nat) : Value := if a = 0 then m.Vi else if a = 1 then m.Vd else m.Vt
def gsM (m : Mem) (a : Nat) : Nat → Nat := if a = 0 then m.gi else if a = 1 then m.gd else m.gt
def chP (c : Cx) (m : Mem) (a : Nat) : CP := ⟨6 + 8 * a, 8 + 8 * a, 9 + 8 * a, 10 + 8 * a, 35 + 8 * a, 37 + 8 * a, 38 + 8 * a, 39 + 8 * a, 1 + a, 100 + 4 * m.k + a, 90 + a, vsM m a, gsM m a, m.k, c.base⟩
def spcK (k : Nat) : List Nat := [0, 1, 2, 3, 90, 91, 92, 100 + 4 * k, 100 + 4 * k + 1, 100 + 4 * k + 2]
def wrS : List Nat := [35, 37, 38, 39, 43, 45, 46, 47, 51, 53, 54, 55, 56, 57, 58, 59]
def boxP (c : Cx) (cs : List Value) : List Nat → World → Prop := fun fp w => fp = [c.gx] ∧ w.heap[c.gx]? = some (.cells cs.toArray 87 (0, 0))
def bL (listed : List Bool) : Nat → Bool := fun i => listed.getD i false
theorem bL_set {listed : List Bool} {j : Nat} (hj : j < listed.length) (i : Nat) : bL (listed.set j true) i = (bL listed i || decide (i = j)) := by
  unfold bL
  simp only [List.getD_eq_getElem?_getD, List.getElem?_set]
  by_cases e : j = i
  · subst e; simp [hj]
  · rw [if_neg e]; simp [Ne.symm e]
theorem bL_of {listed : List Bool} {i : Nat} (h : listed.getD i true = false) : bL listed i = false := by
  unfold bL
  rw [List.getD_eq_getElem?_getD] at h ⊢
  cases e : listed[i]? with
  | none => rfl
  | some b => rw [e] at h; exact h
theorem depsL_on {o : Oper} {listed : List Bool} (h : depsL o listed = true) (j : Nat) (hj : (o.after.toList.any fun e => Region.binds .any e && e.on == j) = true) : bL listed j = true := by
  unfold depsL at h
  rw [List.all_eq_true] at h
  rw [List.any_eq_true] at hj
  obtain ⟨e, he, h2⟩ := hj
  simp only [Bool.and_eq_true, beq_iff_eq] at h2
  have := h e he
  rw [h2.1, Bool.not_true, Bool.false_or, h2.2] at this
  exact this
structure JJ (c : Cx) (m : Mem) (O1 : Nat → Nat) (w1 : World) (F0 : Fm) (listed : List Bool) (F : Fm) (W : World) : Prop where
  len : listed.length = 36
  ex : ∃ O, Stp O1 O w1 W ∧ (∀ k, k ∉ spcK m.k → AtF O k W (comp c m k)) ∧ (∀ a, a < 3 → ChOk (chP c m a) (bL listed) O F W) ∧
    (bL listed 29 = false → AtF O 0 W (boxP c (boxV c m))) ∧ (bL listed 29 = true → bL listed 32 = false → AtF O 0 W (boxP c ((boxV c m).set 3 (F 39)))) ∧ (bL listed 32 = true → AtF O 0 W (boxP c (((boxV c m).set 3 (F 39)).set 4 (F 47))))
  d29 : bL listed 29 = true → bL listed 10 = true ∧ bL listed 18 = true ∧ bL listed 26 = true
  d32 : bL listed 32 = true → bL listed 29 = true
  fix : ∀ t, t ∉ wrS → F t = F0 t
  q27 : bL listed 27 = true → F 56 = ptrV c.gx
  q28 : bL listed 28 = true → F 57 = .pointer (some ⟨c.gx, 3, none⟩)
  q30 : bL listed 30 = true → F 58 = ptrV c.gx
  q31 : bL listed 31 = true → F 59 = .pointer (some ⟨c.gx, 4, none⟩)
section
variable {c : Cx} {m : Mem} {O1 : Nat → Nat} {w1 W W' : World} {F0 F F' : Fm} {listed : List Bool}
/-- Nothing but new blocks. -/
theorem JJ.up (h : JJ c m O1 w1 F0 listed F W) (hb : Below W.heap.size W W') : JJ c m O1 w1 F0 listed F W' := by
  obtain ⟨O, s, r, ch, b1, b2, b3⟩ := h.ex
  exact ⟨h.len, ⟨newO O W.heap.size 97, s.trans (Stp.up hb 97), fun k hk => (r k hk).up hb _, fun a ha => (ch a ha).up hb _, fun e => (b1 e).up hb _, fun e e2 => (b2 e e2).up hb _, fun e => (b3 e).up hb _⟩, h.d29, h.d32, h.fix, h.q27, h.q28, h.q30, h.q31⟩
theorem upd_at (F : Fm) (s : Nat) (v : Value) : upd F s v s = v := by simp [upd]
theorem upd_ne (F : Fm) {s t : Nat} (v : Value) (h : t ≠ s) : upd F s v t = F t := by simp only [upd, nbeq_ne h, cond_false]
theorem cases3 {a : Nat} (h : a < 3) : a = 0 ∨ a = 1 ∨ a = 2 := by omega
/-- A step of chain a, but for what it does to the chain itself. -/
theorem JJ.other (h : JJ c m O1 w1 F0 listed F W) {a i s : Nat} {v : Value} (ha : a < 3) (hi : i = 6 + 8 * a ∨ i = 8 + 8 * a ∨ i = 9 + 8 * a ∨ i = 10 + 8 * a) (hs : s = 35 + 8 * a ∨ s = 37 + 8 * a ∨ s = 38 + 8 * a ∨ s = 39 + 8 * a) (hsi : s = 39 + 8 * a → i = 10 + 8 * a) (hnot : bL listed (10 + 8 * a) = false)
    {O O' : Nat → Nat} (hO : ∃ w2, w2 = W ∧ (Stp O1 O w1 w2 ∧ (∀ k, k ∉ spcK m.k → AtF O k w2 (comp c m k)) ∧ (∀ a, a < 3 → ChOk (chP c m a) (bL listed) O F w2) ∧
    (bL listed 29 = false → AtF O 0 w2 (boxP c (boxV c m))) ∧ (bL listed 29 = true → bL listed 32 = false → AtF O 0 w2 (boxP c ((boxV c m).set 3 (F 39)))) ∧ (bL listed 32 = true → AtF O 0 w2 (boxP c (((boxV c m).set 3 (F 39)).set 4 (F 47))))))
    (hst : Stp O O' W W') (hA : ∀ k P, k ≠ 1 + a → k ≠ 100 + 4 * m.k + a → k ≠ 90 + a → AtF O k W P → AtF O' k W' P) (hch : ChOk (chP c m a) (bL (listed.set i true)) O' (upd F s v) W') : JJ c m O1 w1 F0 (listed.set i true) (upd F s v) W' := by
  obtain ⟨w2, rfl, s1, r, ch, b1, b2, b3⟩ := hO
  have hlen := h.len
  have hil : i < listed.length := by rw [hlen]; omega
  have hbs := bL_set (listed := listed) hil
  have same : ∀ j, j ≠ i → bL (listed.set i true) j = bL listed j := fun j hj => by rw [hbs]; simp [hj]
  have n29 : bL listed 29 = false := by
    cases q : bL listed 29 with
    | false => rfl
    | true =>
      obtain ⟨q1, q2, q3⟩ := h.d29 q
      rcases cases3 ha with rfl | rfl | rfl
      · rw [q1] at hnot; cases hnot
      · rw [q2] at hnot; cases hnot
      · rw [q3] at hnot; cases hnot
  have n32 : bL listed 32 = false := by
    cases q : bL listed 32 with
    | false => rfl
    | true => rw [h.d32 q] at n29; cases n29
  have e29 := same 29 (by omega)
  have e32 := same 32 (by omega)
  have hsw : s ∈ wrS := by
    rcases cases3 ha with rfl | rfl | rfl <;> rcases hs with rfl | rfl | rfl | rfl <;> decide
  refine ⟨by simp [hlen], ⟨O', s1.trans hst, fun k hk => hA k _ ?_ ?_ ?_ (r k hk), fun a' ha' => ?_, fun e => hA 0 _ (by omega) (by omega) (by omega) (b1 n29), fun e => ?_, fun e => ?_⟩, fun e => ?_, fun e => ?_, fun t ht => ?_, fun e => ?_, fun e => ?_, fun e => ?_, fun e => ?_⟩
  · intro e; apply hk; subst e; rcases cases3 ha with rfl | rfl | rfl <;> simp [spcK]
  · intro e; apply hk; subst e; rcases cases3 ha with rfl | rfl | rfl <;> simp [spcK]
  · intro e; apply hk; subst e; rcases cases3 ha with rfl | rfl | rfl <;> simp [spcK]
  · by_cases haa : a' = a
    · subst haa; exact hch
    · refine (ch a' ha').fr (fun j hj => same j (by simp only [chP] at hj; omega)) (fun t ht => upd_ne F v (by simp only [chP] at ht; omega)) fun k P hk => hA k P (by simp only [chP] at hk; omega) (by simp only [chP] at hk; omega) (by simp only [chP] at hk; omega)
  · rw [e29, n29] at e; cases e
  · rw [e32, n32] at e; cases e
  · rw [e29, n29] at e; cases e
  · rw [e32, n32] at e; cases e
  · rw [upd_ne F v (fun e => ht (by rw [e]; exact hsw))]; exact h.fix t ht
  · rw [upd_ne F v (by omega)]; exact h.q27 (by rw [← same 27 (by omega)]; exact e)
  · rw [upd_ne F v (by omega)]; exact h.q28 (by rw [← same 28 (by omega)]; exact e)
  · rw [upd_ne F v (by omega)]; exact h.q30 (by rw [← same 30 (by omega)]; exact e)
  · rw [upd_ne F v (by omega)]; exact h.q31 (by rw [← same 31 (by omega)]; exact e)
theorem wb_box {n : Nat} {o : Oper} {K : Fm → World → Prop} {t : TypeId} {x : Operand} {v : Value} {cs : List Value} (hop : o.op = .box t x) (hx : ev F x = v) (hv : v.cells = cs.toArray) {d : Nat} (hd : o.dst = some d) (hn : Nat.blt d n = true)
    (k : ∀ g w1, New W w1 g cs t → K (upd F d (.pointer (some ⟨g, 0, none⟩))) w1) : wb Tryd.prog n o F W K := by
  refine wb_val hd hn ?_ (k _ _ (new_alloc W cs t))
  simp [execOp, hop, Instr.box, newVar, newRow, newObj, Sem.run, hx, hv]
section
variable {a : Nat} {o : Oper} {rb : List Nat} {wr : World}
theorem JJ.ap_no (h : JJ c m O1 w1 F0 listed F W) (ha : a < 3) (hno : bL listed (6 + 8 * a) = false ∨ bL listed (8 + 8 * a) = false ∨ bL listed (9 + 8 * a) = false ∨ bL listed (10 + 8 * a) = false) : bL listed (10 + 8 * a) = false := by
  obtain ⟨O, s, r, ch, _⟩ := h.ex
  have hc := ch a ha
  cases q : bL listed (10 + 8 * a) with
  | false => rfl
  | true =>
    have q1 := hc.al q
    have q2 := hc.asb q
    have q3 := hc.sb q2
    simp only [chP] at q1 q2 q3
    rcases hno with e | e | e | e
    · rw [e] at q1; cases q1
    · rw [e] at q3; cases q3
    · rw [e] at q2; cases q2
    · rw [e] at q; cases q
theorem JJ.no29 (h : JJ c m O1 w1 F0 listed F W) (ha : a < 3) (hno : bL listed (10 + 8 * a) = false) : bL listed 29 = false := by
  cases q : bL listed 29 with
  | false => rfl
  | true =>
    obtain ⟨q1, q2, q3⟩ := h.d29 q
    rcases cases3 ha with rfl | rfl | rfl
    · rw [q1] at hno; cases hno
    · rw [q2] at hno; cases hno
    · rw [q3] at hno; cases hno
theorem boxV_at (c : Cx) (m : Mem) (ha : a < 3) : (boxV c m).toArray[3 + a]? = some (vsM m a) := by
  rcases cases3 ha with rfl | rfl | rfl <;> rfl
/-- A row is read. -/
theorem JJ.wload (h : JJ c m O1 w1 F0 listed F W) (hC : Kr wr rb W) (ha : a < 3) (hno : bL listed (6 + 8 * a) = false) (hop : o.op = .load 85 (.tmp (34 + 8 * a))) (hd : o.dst = some (35 + 8 * a)) (hF : F0 (34 + 8 * a) = .pointer (some ⟨c.gx, 3 + a, none⟩)) :
    wb Tryd.prog 200 o F W fun F2 w2 => Kr wr rb w2 ∧ ∀ W', Below w2.heap.size w2 W' → Kr wr rb W' → JJ c m O1 w1 F0 (listed.set (6 + 8 * a) true) F2 W' := by
  have n10 := h.ap_no ha (.inl hno)
  have n29 := h.no29 ha n10
  obtain ⟨O, s, r, ch, b1, b2, b3⟩ := h.ex
  obtain ⟨f0, ⟨_, hbx⟩, _⟩ := (b1 n29).now
  refine wb_L tabOk hop (a := ⟨c.gx, 3 + a, none⟩) ((h.fix (34 + 8 * a) (by rcases cases3 ha with rfl | rfl | rfl <;> decide)).trans hF) (by rfl) hd (by rcases cases3 ha with rfl | rfl | rfl <;> rfl) (v := vsM m a) (cell_blk hbx (boxV_at c m ha)) ⟨hC, fun W' hB _ => JJ.up (W := W) ?_ hB⟩
  refine h.other ha (.inl rfl) (.inl rfl) (by omega) n10 ⟨W, rfl, s, r, ch, b1, b2, b3⟩ (Stp.refl O W) (fun _ _ _ _ _ x => x) ?_
  exact (ch a ha).load (by simp only [chP]; omega) (by simp only [chP]; omega) (fun i => by rw [bL_set (by rw [h.len]; omega)]; rfl) rfl
/-- A set is made. -/
theorem JJ.wbox (h : JJ c m O1 w1 F0 listed F W) (hC : Kr wr rb W) (hbase : c.base ≤ W.heap.size) (ha : a < 3) (hno : bL listed (8 + 8 * a) = false) (hop : o.op = .box 91 (.tmp (36 + 8 * a))) (hd : o.dst = some (37 + 8 * a)) (hF : F0 (36 + 8 * a) = .agg #[.slice none 0 0]) :
    wb Tryd.prog 200 o F W fun F2 w2 => Kr wr rb w2 ∧ ∀ W', Below w2.heap.size w2 W' → Kr wr rb W' → JJ c m O1 w1 F0 (listed.set (8 + 8 * a) true) F2 W' := by
  have n10 := h.ap_no ha (.inr (.inl hno))
  obtain ⟨O, s, r, ch, b1, b2, b3⟩ := h.ex
  refine wb_box hop ((h.fix (36 + 8 * a) (by rcases cases3 ha with rfl | rfl | rfl <;> decide)).trans hF) (cs := [.slice none 0 0]) rfl hd (by rcases cases3 ha with rfl | rfl | rfl <;> rfl) ?_
  intro g w2 hn
  refine ⟨hC.up hn.below, fun W' hB _ => JJ.up (W := w2) ?_ hB⟩
  refine h.other ha (.inr (.inl rfl)) (.inr (.inl rfl)) (by omega) n10 ⟨W, rfl, s, r, ch, b1, b2, b3⟩ (Stp.up hn.below (100 + 4 * m.k + a)) (fun _ _ _ _ _ x => x.up hn.below _) ?_
  exact (ch a ha).box hn (by simpa [chP] using hbase) hno (by simp only [chP]; omega) (by simp only [chP]; omega) (fun i => by rw [bL_set (by rw [h.len]; omega)]; rfl) rfl
/-- It is alone in a row. -/
theorem JJ.wone (h : JJ c m O1 w1 F0 listed F W) (hC : Kr wr rb W) (ha : a < 3) (hno : bL listed (9 + 8 * a) = false) (hyes : bL listed (8 + 8 * a) = true) (hop : o.op = .buildSlice 85 1 #[(0, .tmp (37 + 8 * a))]) (hd : o.dst = some (38 + 8 * a)) :
    wb Tryd.prog 200 o F W fun F2 w2 => Kr wr rb w2 ∧ ∀ W', Below w2.heap.size w2 W' → Kr wr rb W' → JJ c m O1 w1 F0 (listed.set (9 + 8 * a) true) F2 W' := by
  have n10 := h.ap_no ha (.inr (.inr (.inl hno)))
  obtain ⟨O, s, r, ch, b1, b2, b3⟩ := h.ex
  obtain ⟨gs, hgs, _⟩ := (ch a ha).x hyes
  have hgs' : F (37 + 8 * a) = ptrV gs := hgs
  refine wb_a (wa_bs tabOk 88 1 hop (by rfl) rfl rfl rfl rfl (cs := [ptrV gs]) ?_ hd (by rcases cases3 ha with rfl | rfl | rfl <;> rfl) ?_)
  · show bld F _ [(0, .tmp (37 + 8 * a))] _ = _
    unfold bld
    rw [show ev F (.tmp (37 + 8 * a)) = ptrV gs from hgs']
    rfl
  intro g w2 hn
  refine ⟨hC.up hn.below, fun W' hB _ => JJ.up (W := w2) ?_ hB⟩
  refine h.other ha (.inr (.inr (.inl rfl))) (.inr (.inr (.inl rfl))) (by omega) n10 ⟨W, rfl, s, r, ch, b1, b2, b3⟩ (Stp.up hn.below (90 + a)) (fun _ _ _ _ _ x => x.up hn.below _) ?_
  exact (ch a ha).one hgs hn hyes hno (by simp only [chP]; omega) (by simp only [chP]; omega) (fun i => by rw [bL_set (by rw [h.len]; omega)]; rfl) rfl
/-- It is appended. -/
theorem JJ.wapp (h : JJ c m O1 w1 F0 listed F W) (hC : Kr wr rb W) (hbase : c.base ≤ W.heap.size) (ha : a < 3) (hno : bL listed (10 + 8 * a) = false) (hy1 : bL listed (6 + 8 * a) = true) (hy2 : bL listed (9 + 8 * a) = true)
    (hV : ∀ x ∈ (vsM m a).ownBlock.toList, O1 x = 1 + a ∧ x < w1.heap.size) (hrb : ∀ x ∈ (vsM m a).ownBlock.toList, x ∈ rb) (hk : m.k ≤ 16384)
    (hop : o.op = .call { callee := .builtin .append, args := #[.tmp (35 + 8 * a), .tmp (38 + 8 * a)], argTypes := #[85, 85] }) (hd : o.dst = some (39 + 8 * a)) :
    wb Tryd.prog 200 o F W fun F2 w2 => Kr wr rb w2 ∧ ∀ W', Below w2.heap.size w2 W' → Kr wr rb W' → JJ c m O1 w1 F0 (listed.set (10 + 8 * a) true) F2 W' := by
  obtain ⟨O, s, r, ch, b1, b2, b3⟩ := h.ex
  have hc := ch a ha
  obtain ⟨gs, hgs, _, hx, _⟩ := hc.x (hc.sb hy2)
  obtain ⟨hh, hss, htm⟩ := hx hy2 hno
  obtain ⟨ft, ⟨_, hbt⟩, _⟩ := htm.now
  obtain ⟨fr, ⟨_, hrow⟩, _⟩ := (hc.r hno).now
  have hl : F (35 + 8 * a) = vsM m a := hc.l hy1
  have hs' : F (38 + 8 * a) = .slice (some ⟨hh, 0, none⟩) 1 1 := hss
  have hrow : W.ownsRow c.base 88 1 (vsM m a) m.k (ptrs m.k (gsM m a)) := hrow
  refine wb_a (wa_ap tabOk 88 1 8 hrow (news := [ptrV gs]) hbt hop rfl rfl rfl hl hs' (by rfl) rfl hd (by rcases cases3 ha with rfl | rfl | rfl <;> rfl) rfl (by simp [ptrV, Value.oneCell']) (by omega) (by omega) hbase ?_)
  intro A cap w2 hown hg hob
  have hkept : Kept (vsM m a).ownBlock.toList W w2 := Kept.grown (Kept.refl _ _) hg fun g e => .inl (by rw [e]; simp)
  refine ⟨hC.trans hkept fun x hx => .inl (hrb x hx), fun W' hB _ => JJ.up (W := w2) ?_ hB⟩
  have hO : ∀ x ∈ (vsM m a).ownBlock.toList, O x = 1 + a ∧ x < W.heap.size := fun x hx => ⟨(s.own x (hV x hx).2).trans (hV x hx).1, Nat.lt_of_lt_of_le (hV x hx).2 s.size⟩
  refine h.other ha (.inr (.inr (.inr rfl))) (.inr (.inr (.inr rfl))) (fun _ => rfl) hno ⟨W, rfl, s, r, ch, b1, b2, b3⟩ (Stp.kept hkept (k := 1 + a) (fun x hx _ => (hO x hx).1) (.inl (by omega)) (1 + a)) (fun k P n1 _ _ x => x.keep (fun _ => newO_old) hkept.size fun y hy ho => hkept.block y hy fun hm => n1 (by rw [← ho]; exact (hO y hm).1)) ?_
  exact hc.app hgs hown hg hob hO (by simp only [chP]; omega) hy2 hno (by simp only [chP]; omega) (by simp only [chP]; omega) hy1 (fun i => by rw [bL_set (by rw [h.len]; omega)]; rfl) rfl
/-- What is reckoned alone. -/
theorem JJ.note (h : JJ c m O1 w1 F0 listed F W) {i s : Nat} {v : Value} (hi : i = 27 ∧ s = 56 ∧ v = ptrV c.gx ∨ i = 28 ∧ s = 57 ∧ v = .pointer (some ⟨c.gx, 3, none⟩) ∨ i = 30 ∧ s = 58 ∧ v = ptrV c.gx ∨ i = 31 ∧ s = 59 ∧ v = .pointer (some ⟨c.gx, 4, none⟩)) : JJ c m O1 w1 F0 (listed.set i true) (upd F s v) W := by
  have hlen := h.len
  have hb := bL_set (listed := listed) (j := i) (by omega)
  have same : ∀ j, j ≠ i → bL (listed.set i true) j = bL listed j := fun j hj => by rw [hb]; simp [hj]
  have hs : s ∈ wrS := by rcases hi with ⟨_, rfl, _⟩ | ⟨_, rfl, _⟩ | ⟨_, rfl, _⟩ | ⟨_, rfl, _⟩ <;> decide
  have hF : ∀ t, t < 56 → upd F s v t = F t := fun t ht => upd_ne F v (by omega)
  have s29 := same 29 (by omega)
  have s32 := same 32 (by omega)
  have s10 := same 10 (by omega)
  have s18 := same 18 (by omega)
  have s26 := same 26 (by omega)
  obtain ⟨O, st, r, ch, b1, b2, b3⟩ := h.ex
  refine ⟨by simp [hlen], ⟨O, st, r, fun a ha => (ch a ha).fr (fun j hj => same j (by simp only [chP] at hj; omega)) (fun t ht => hF t (by simp only [chP] at ht; omega)) fun _ _ _ x => x, fun e => b1 (by rw [← s29]; exact e), fun e e2 => ?_, fun e => ?_⟩, fun e => ?_, fun e => ?_, fun t ht => ?_, fun e => ?_, fun e => ?_, fun e => ?_, fun e => ?_⟩
  · rw [hF 39 (by omega)]; exact b2 (by rw [← s29]; exact e) (by rw [← s32]; exact e2)
  · rw [hF 39 (by omega), hF 47 (by omega)]; exact b3 (by rw [← s32]; exact e)
  · rw [s10, s18, s26]; exact h.d29 (by rw [← s29]; exact e)
  · rw [s29]; exact h.d32 (by rw [← s32]; exact e)
  · rw [upd_ne F v (fun e => ht (by rw [e]; exact hs))]; exact h.fix t ht
  · by_cases q : i = 27
    · have : s = 56 ∧ v = ptrV c.gx := by rcases hi with ⟨_, a⟩ | ⟨q2, _⟩ | ⟨q2, _⟩ | ⟨q2, _⟩ <;> first | exact a | omega
      rw [this.1, this.2, upd_at]
    · rw [upd_ne F v (by omega)]; exact h.q27 (by rw [← same 27 (fun e => q e.symm)]; exact e)
  · by_cases q : i = 28
    · have : s = 57 ∧ v = .pointer (some ⟨c.gx, 3, none⟩) := by rcases hi with ⟨q2, _⟩ | ⟨_, a⟩ | ⟨q2, _⟩ | ⟨q2, _⟩ <;> first | exact a | omega
      rw [this.1, this.2, upd_at]
    · rw [upd_ne F v (by omega)]; exact h.q28 (by rw [← same 28 (fun e => q e.symm)]; exact e)
  · by_cases q : i = 30
    · have : s = 58 ∧ v = ptrV c.gx := by rcases hi with ⟨q2, _⟩ | ⟨q2, _⟩ | ⟨_, a⟩ | ⟨q2, _⟩ <;> first | exact a | omega
      rw [this.1, this.2, upd_at]
    · rw [upd_ne F v (by omega)]; exact h.q30 (by rw [← same 30 (fun e => q e.symm)]; exact e)
  · by_cases q : i = 31
    · have : s = 59 ∧ v = .pointer (some ⟨c.gx, 4, none⟩) := by rcases hi with ⟨q2, _⟩ | ⟨q2, _⟩ | ⟨q2, _⟩ | ⟨_, a⟩ <;> first | exact a | omega
      rw [this.1, this.2, upd_at]
    · rw [upd_ne F v (by omega)]; exact h.q31 (by rw [← same 31 (fun e => q e.symm)]; exact e)
theorem JJ.wnote (h : JJ c m O1 w1 F0 listed F W) (hC : Kr wr rb W) {i s : Nat} {v : Value} (hi : i = 27 ∧ s = 56 ∧ v = ptrV c.gx ∨ i = 28 ∧ s = 57 ∧ v = .pointer (some ⟨c.gx, 3, none⟩) ∨ i = 30 ∧ s = 58 ∧ v = ptrV c.gx ∨ i = 31 ∧ s = 59 ∧ v = .pointer (some ⟨c.gx, 4, none⟩)) (hd : o.dst = some s) (hp : pureF tab o.op F = some v) :
    wb Tryd.prog 200 o F W fun F2 w2 => Kr wr rb w2 ∧ ∀ W', Below w2.heap.size w2 W' → Kr wr rb W' → JJ c m O1 w1 F0 (listed.set i true) F2 W' :=
  wb_P tabOk hp hd (by rcases hi with ⟨_, rfl, _⟩ | ⟨_, rfl, _⟩ | ⟨_, rfl, _⟩ | ⟨_, rfl, _⟩ <;> rfl) ⟨hC, fun W' hB _ => JJ.up (h.note hi) hB⟩
theorem AtF.put {O : Nat → Nat} {P : List Nat → World → Prop} {k k0 g : Nat} {cs : List Value} {t : TypeId} (h : AtF O k W P) (hp : Put W W' g cs t) (hO : O g = k0) (hne : k ≠ k0) : AtF (newO O W.heap.size k0) k W' P :=
  h.keep (fun _ => newO_old) hp.grown.size fun b hb ho => hp.grown.block b hb fun e => hne (by rw [← ho, ← hO]; congr 1; simpa using e)
/-- The first row is put back. -/
theorem JJ.w29 (h : JJ c m O1 w1 F0 listed F W) (hC : Kr wr rb W) (hrb : c.gx ∈ rb) (hno : bL listed 29 = false) (hy : bL listed 28 = true ∧ bL listed 10 = true ∧ bL listed 18 = true ∧ bL listed 26 = true) (hop : o.op = .store 85 (.tmp 57) (.tmp 39)) (hd : o.dst = none) :
    wb Tryd.prog 200 o F W fun F2 w2 => Kr wr rb w2 ∧ ∀ W', Below w2.heap.size w2 W' → Kr wr rb W' → JJ c m O1 w1 F0 (listed.set 29 true) F2 W' := by
  have hlen := h.len
  have hb := bL_set (listed := listed) (j := 29) (by omega)
  have same : ∀ j, j ≠ 29 → bL (listed.set 29 true) j = bL listed j := fun j hj => by rw [hb]; simp [hj]
  obtain ⟨O, st, r, ch, b1, b2, b3⟩ := h.ex
  obtain ⟨f0, ⟨hf0, hbx⟩, hO⟩ := (b1 hno).now
  subst hf0
  have hO0 := (hO _ (List.mem_singleton.2 rfl)).1
  have hc := ch 0 (by omega)
  obtain ⟨gs, _, _, _, hx⟩ := hc.x (hc.sb (hc.asb hy.2.1))
  obtain ⟨A, cp, hA, _⟩ := hx hy.2.1
  have hA : F 39 = .slice A (m.k + 1) cp := hA
  have n32 : bL listed 32 = false := by
    cases q : bL listed 32 with
    | false => rfl
    | true => rw [h.d32 q] at hno; cases hno
  refine wb_S (off := 3) (v := F 39) tabOk hbx hop (h.q28 hy.1) rfl rfl rfl (by rw [hA]; rfl) (by simp [boxV]) hd ?_
  intro w2 hp
  refine ⟨hC.put hp (.inl hrb), fun W' hB _ => JJ.up (W := w2) ?_ hB⟩
  have s32 := same 32 (by omega)
  refine ⟨by simp [hlen], ⟨newO O W.heap.size 0, st.trans (Stp.kept (rb := [c.gx]) (Kept.put (Kept.refl _ _) hp (.inl (by simp))) (k := 0) (by simpa using fun _ => hO0) (.inl (by omega)) 0), fun k hk => (r k hk).put hp hO0 (fun e => hk (by rw [e]; simp [spcK])), fun a ha => (ch a ha).fr (fun j hj => same j (by simp only [chP] at hj; omega)) (fun _ _ => rfl) fun k P hk x => x.put hp hO0 (by simp only [chP] at hk; omega), fun e => ?_, fun _ _ => ?_, fun e => ?_⟩, fun _ => ?_, fun e => ?_, h.fix, fun e => h.q27 (by rw [← same 27 (by omega)]; exact e), fun e => h.q28 (by rw [← same 28 (by omega)]; exact e), fun e => h.q30 (by rw [← same 30 (by omega)]; exact e), fun e => h.q31 (by rw [← same 31 (by omega)]; exact e)⟩
  · rw [hb] at e; simp at e
  · exact ⟨[c.gx], by simpa using ⟨(newO_old (blk_lt hbx)).trans hO0, blk_lt hp.blk⟩, fun w' hw' => ⟨rfl, (hw' _ (by simp)).trans hp.blk⟩⟩
  · rw [s32, n32] at e; cases e
  · rw [same 10 (by omega), same 18 (by omega), same 26 (by omega)]; exact hy.2
  · rw [s32, n32] at e; cases e
/-- The second one. -/
theorem JJ.w32 (h : JJ c m O1 w1 F0 listed F W) (hC : Kr wr rb W) (hrb : c.gx ∈ rb) (hno : bL listed 32 = false) (hy : bL listed 31 = true ∧ bL listed 29 = true) (hop : o.op = .store 85 (.tmp 59) (.tmp 47)) (hd : o.dst = none) :
    wb Tryd.prog 200 o F W fun F2 w2 => Kr wr rb w2 ∧ ∀ W', Below w2.heap.size w2 W' → Kr wr rb W' → JJ c m O1 w1 F0 (listed.set 32 true) F2 W' := by
  have hlen := h.len
  have hb := bL_set (listed := listed) (j := 32) (by omega)
  have same : ∀ j, j ≠ 32 → bL (listed.set 32 true) j = bL listed j := fun j hj => by rw [hb]; simp [hj]
  have hd29 := h.d29 hy.2
  obtain ⟨O, st, r, ch, b1, b2, b3⟩ := h.ex
  obtain ⟨f0, ⟨hf0, hbx⟩, hO⟩ := (b2 hy.2 hno).now
  subst hf0
  have hO0 := (hO _ (List.mem_singleton.2 rfl)).1
  have hc := ch 1 (by omega)
  obtain ⟨gs, _, _, _, hx⟩ := hc.x (hc.sb (hc.asb hd29.2.1))
  obtain ⟨A, cp, hA, _⟩ := hx hd29.2.1
  have hA : F 47 = .slice A (m.k + 1) cp := hA
  refine wb_S (off := 4) (v := F 47) tabOk hbx hop (h.q31 hy.1) rfl rfl rfl (by rw [hA]; rfl) (by simp [boxV]) hd ?_
  intro w2 hp
  refine ⟨hC.put hp (.inl hrb), fun W' hB _ => JJ.up (W := w2) ?_ hB⟩
  have s29 := same 29 (by omega)
  refine ⟨by simp [hlen], ⟨newO O W.heap.size 0, st.trans (Stp.kept (rb := [c.gx]) (Kept.put (Kept.refl _ _) hp (.inl (by simp))) (k := 0) (by simpa using fun _ => hO0) (.inl (by omega)) 0), fun k hk => (r k hk).put hp hO0 (fun e => hk (by rw [e]; simp [spcK])), fun a ha => (ch a ha).fr (fun j hj => same j (by simp only [chP] at hj; omega)) (fun _ _ => rfl) fun k P hk x => x.put hp hO0 (by simp only [chP] at hk; omega), fun e => ?_, fun _ e => ?_, fun _ => ?_⟩, fun _ => ?_, fun e => ?_, h.fix, fun e => h.q27 (by rw [← same 27 (by omega)]; exact e), fun e => h.q28 (by rw [← same 28 (by omega)]; exact e), fun e => h.q30 (by rw [← same 30 (by omega)]; exact e), fun e => h.q31 (by rw [← same 31 (by omega)]; exact e)⟩
  · rw [s29, hy.2] at e; cases e
  · rw [hb] at e; simp at e
  · exact ⟨[c.gx], by simpa using ⟨(newO_old (blk_lt hbx)).trans hO0, blk_lt hp.blk⟩, fun w' hw' => ⟨rfl, (hw' _ (by simp)).trans hp.blk⟩⟩
  · rw [same 10 (by omega), same 18 (by omega), same 26 (by omega)]; exact hd29
  · rw [s29]; exact hy.2
/-- All is through but the third one. -/
theorem JJ.fin (h : JJ c m O1 w1 F0 (fullL 33 36) F W) (hbi : m.bi = fun _ => []) (hbd : m.bd = fun _ => []) (hbt : m.bt = fun _ => []) : W.heap[c.gx]? = some (.cells (((boxV c m).set 3 (F 39)).set 4 (F 47)).toArray 87 (0, 0)) ∧ (∃ A cp, F 55 = .slice A (m.k + 1) cp) ∧ (∀ t, t ∉ wrS → F t = F0 t) ∧
    ∀ W2, Put W W2 c.gx ((((boxV c m).set 3 (F 39)).set 4 (F 47)).set 5 (F 55)) 87 → ∃ O' m', All O' W2 (comp c m') ∧ Stp O1 O' w1 W2 ∧ m' = { m with k := m.k + 1, gi := m'.gi, gd := m'.gd, gt := m'.gt, Vi := F 39, Vd := F 47, Vt := F 55 } := by
  have hf : ∀ i, i < 33 → bL (fullL 33 36) i = true := by decide
  obtain ⟨O, st, r, ch, b1, b2, b3⟩ := h.ex
  obtain ⟨f0, ⟨hf0, hbx⟩, hO⟩ := (b3 (hf 32 (by omega))).now
  subst hf0
  have hO0 := (hO _ (List.mem_singleton.2 rfl)).1
  obtain ⟨g1, _, p1, _, x1⟩ := (ch 0 (by omega)).x (hf 8 (by omega))
  obtain ⟨g2, _, p2, _, x2⟩ := (ch 1 (by omega)).x (hf 16 (by omega))
  obtain ⟨g3, _, p3, _, x3⟩ := (ch 2 (by omega)).x (hf 24 (by omega))
  obtain ⟨A1, c1, y1, z1⟩ := x1 (hf 10 (by omega))
  obtain ⟨A2, c2, y2, z2⟩ := x2 (hf 18 (by omega))
  obtain ⟨A3, c3, y3, z3⟩ := x3 (hf 26 (by omega))
  have y1 : F 39 = .slice A1 (m.k + 1) c1 := y1
  have y2 : F 47 = .slice A2 (m.k + 1) c2 := y2
  have y3 : F 55 = .slice A3 (m.k + 1) c3 := y3
  refine ⟨hbx, ⟨A3, c3, y3⟩, h.fix, fun W2 hp => ⟨newO O W.heap.size 0, { m with k := m.k + 1, gi := setN m.gi m.k g1, gd := setN m.gd m.k g2, gt := setN m.gt m.k g3, Vi := F 39, Vd := F 47, Vt := F 55 }, fun k => ?_, st.trans (Stp.kept (rb := [c.gx]) (Kept.put (Kept.refl _ _) hp (.inl (by simp))) (k := 0) (by simpa using fun _ => hO0) (.inl (by omega)) 0), rfl⟩⟩
  have up : ∀ k P, k ≠ 0 → AtF O k W P → AtF (newO O W.heap.size 0) k W2 P := fun k P hk x => x.put hp hO0 hk
  by_cases k0 : k = 0
  · subst k0
    exact ⟨[c.gx], by simpa using ⟨(newO_old (blk_lt hbx)).trans hO0, blk_lt hp.blk⟩, fun w' hw' => ⟨rfl, (hw' _ (by simp)).trans hp.blk⟩⟩
  by_cases k1 : k = 1
  · subst k1; refine (up 1 _ (by omega) z1).imp fun fp w' hh => ?_
    show rowP c.base (m.k + 1) (F 39) (setN m.gi m.k g1) fp w'
    rw [y1]; exact hh
  by_cases k2 : k = 2
  · subst k2; refine (up 2 _ (by omega) z2).imp fun fp w' hh => ?_
    show rowP c.base (m.k + 1) (F 47) (setN m.gd m.k g2) fp w'
    rw [y2]; exact hh
  by_cases k3 : k = 3
  · subst k3; refine (up 3 _ (by omega) z3).imp fun fp w' hh => ?_
    show rowP c.base (m.k + 1) (F 55) (setN m.gt m.k g3) fp w'
    rw [y3]; exact hh
  by_cases s1 : k = 100 + 4 * m.k
  · subst s1
    rw [show 100 + 4 * m.k = 100 + 4 * m.k + 0 from rfl, comp_at m.k 0 (by omega)]
    refine (up (100 + 4 * m.k) _ (by omega) p1).imp fun fp w' hh => ⟨fun _ _ => ?_, fun e => absurd e (by omega), fun e => absurd e (by omega), fun e => absurd e (by omega)⟩
    show PSet c.base (setN m.gi m.k g1 m.k) w' (m.bi m.k) fp
    rw [setN_at, hbi]; exact hh
  by_cases s2 : k = 100 + 4 * m.k + 1
  · subst s2
    rw [comp_at m.k 1 (by omega)]
    refine (up (100 + 4 * m.k + 1) _ (by omega) p2).imp fun fp w' hh => ⟨fun e => absurd e (by omega), fun _ _ => ?_, fun e => absurd e (by omega), fun e => absurd e (by omega)⟩
    show PSet c.base (setN m.gd m.k g2 m.k) w' (m.bd m.k) fp
    rw [setN_at, hbd]; exact hh
  by_cases s3 : k = 100 + 4 * m.k + 2
  · subst s3
    rw [comp_at m.k 2 (by omega)]
    refine (up (100 + 4 * m.k + 2) _ (by omega) p3).imp fun fp w' hh => ⟨fun e => absurd e (by omega), fun e => absurd e (by omega), fun _ _ => ?_, fun e => absurd e (by omega)⟩
    show PSet c.base (setN m.gt m.k g3 m.k) w' (m.bt m.k) fp
    rw [setN_at, hbt]; exact hh
  by_cases tk : k = 90 ∨ k = 91 ∨ k = 92
  · rw [comp_free (by omega) (by omega)]; exact AtF.tr
  refine (up k _ k0 (r k ?_)).imp fun fp w' hh => ?_
  · simp only [spcK, List.mem_cons, List.not_mem_nil, or_false]; omega
  match k with
  | 4 => exact hh
  | 5 => exact hh
  | 6 => exact hh
  | j + 7 =>
    intro hj
    have hh : comp7 c m ((j - 93) / 4) ((j - 93) % 4) fp w' := hh hj
    refine ⟨fun e hv => ?_, fun e hv => ?_, fun e hv => ?_, hh.2.2.2⟩
    · have hne : (j - 93) / 4 ≠ m.k := by omega
      have hv : (j - 93) / 4 < m.k := by have : (j - 93) / 4 < m.k + 1 := hv; omega
      show PSet c.base (setN m.gi m.k g1 _) w' (m.bi _) fp
      rw [setN_ne _ _ hne]; exact hh.1 e hv
    · have hne : (j - 93) / 4 ≠ m.k := by omega
      have hv : (j - 93) / 4 < m.k := by have : (j - 93) / 4 < m.k + 1 := hv; omega
      show PSet c.base (setN m.gd m.k g2 _) w' (m.bd _) fp
      rw [setN_ne _ _ hne]; exact hh.2.1 e hv
    · have hne : (j - 93) / 4 ≠ m.k := by omega
      have hv : (j - 93) / 4 < m.k := by have : (j - 93) / 4 < m.k + 1 := hv; omega
      show PSet c.base (setN m.gt m.k g3 _) w' (m.bt _) fp
      rw [setN_ne _ _ hne]; exact hh.2.2.1 e hv
theorem JJ.start {O : Nat → Nat} {w : World} {F : Fm} {L : List Bool} (h : All O w (comp c m)) (hl : L.length = 36) (hb : ∀ i ∈ [6, 8, 9, 10, 14, 16, 17, 18, 22, 24, 25, 26, 27, 28, 29, 30, 31, 32], bL L i = false) : JJ c m O w F L F w := by
  have no : ∀ {p : Prop} i, i ∈ [6, 8, 9, 10, 14, 16, 17, 18, 22, 24, 25, 26, 27, 28, 29, 30, 31, 32] → bL L i = true → p := fun i hi e => by rw [hb i hi] at e; cases e
  refine ⟨hl, ⟨O, Stp.refl _ _, fun k _ => h k, fun a ha => ?_, fun _ => h 0, no 29 (by decide), no 32 (by decide)⟩, no 29 (by decide), no 32 (by decide), fun _ _ => rfl, no 27 (by decide), no 28 (by decide), no 30 (by decide), no 31 (by decide)⟩
  rcases cases3 ha with rfl | rfl | rfl
  · exact ⟨no 6 (by decide), fun _ => h 1, no 8 (by decide), no 9 (by decide), no 10 (by decide), no 10 (by decide)⟩
  · exact ⟨no 14 (by decide), fun _ => h 2, no 16 (by decide), no 17 (by decide), no 18 (by decide), no 18 (by decide)⟩
  · exact ⟨no 22 (by decide), fun _ => h 3, no 24 (by decide), no 25 (by decide), no 26 (by decide), no 26 (by decide)⟩
end
end
end Go.Proofs.YtkjbkalakafnlaaDoor

/- solve: push. -/
namespace Go.Proofs.YtkjbkalakafnlaaDoor
open Go.RowKit
set_option linter.unusedVariables false
set_option linter.unusedSimpArgs false
set_option maxRecDepth 100000
def pushL (wk : List Nat) (v : Nat) : List Nat := if v ∈ wk then wk else wk ++ [v]
theorem nodup_len : ∀ {n : Nat} {l : List Nat}, l.Nodup → (∀ v ∈ l, v < n) → l.length ≤ n
  | 0, l, _, h => by cases l with | nil => simp | cons a l => have := h a (by simp); omega
  | n + 1, l, hn, h => by
    have h1 := nodup_len (n := n) (l := l.erase n) (hn.erase n) fun v hv => by
      have h2 := h v (List.mem_of_mem_erase hv)
      have : v ≠ n := fun e => by subst e; exact (List.Nodup.not_mem_erase hn) hv
      omega
    by_cases hm : n ∈ l
    · rw [List.length_erase_of_mem hm] at h1; omega
    · rw [List.erase_of_not_mem hm] at h1; omega
set_option maxHeartbeats 4000000 in
theorem sPush {c : Cx} {O : Nat → Nat} {w : World} {m : Mem} (h : SV c O w m) (v : Nat) (hv : v < c.n) :
    Calls Tryd.prog 48 #[.pointer (some ⟨c.gx, 0, none⟩), .int .i64 (v : Int)] w fun e w' => e = .returned (.tuple #[]) ∧ ∃ O' V', SV c O' w' { m with wk := pushL m.wk v, Vw := V' } ∧ Stp O O' w w' := by
  obtain ⟨hb, hbO⟩ := h.box
  obtain ⟨hon, honO⟩ := h.onB
  obtain ⟨fq, hq, hqO⟩ := h.queue
  obtain ⟨A, cap, hVw, _⟩ := hq.form
  obtain ⟨row, hrow⟩ := hq.one
  have hl := nodup_len h.nd h.wl
  have hn := h.hn
  have hbs := h.sz
  have hqlt := hq.lt
  have hcell : w.cell? ((⟨m.go, 0, none⟩ : Addr).add (v * 1)) = some (.bool (decide (v ∈ m.wk))) := by
    rw [Nat.mul_one, add_zero]
    exact cell_blk hon (by simpa using onV_get (wk := m.wk) hv)
  have hgo : c.gx ≠ m.go := fun e => by rw [e, honO] at hbO; cases hbO
  have hb' := hb
  unfold boxV at hb'
  rw [hVw] at hb' hq
  refine enterR (args := [.pointer (some ⟨c.gx, 0, none⟩), .int .i64 (v : Int)]) tabOk Tryd.func48 rfl Tryd.ntmps48 rfl ?_; conv => whnf
  (repeat' (first | (refine wl_Lg tabOk hb' rfl rfl rfl rfl rfl rfl rfl (run_l tabOk ?_); conv => whnf) | (refine wl_L tabOk rfl rfl rfl rfl rfl rfl hcell (run_l tabOk ?_); conv => whnf) | (refine wl_Xn tabOk 4 1 rfl rfl rfl rfl rfl rfl rfl (by omega) (run_l tabOk ?_); conv => whnf) | (refine wl_add rfl rfl rfl rfl rfl rfl (by omega) (by omega) (run_l tabOk ?_); conv => whnf) | (refine wl_sub rfl rfl rfl rfl rfl rfl (by omega) (by omega) (run_l tabOk ?_); conv => whnf) | (refine wl_cvA tabOk rfl rfl rfl (by simp only [inK]; omega) rfl rfl rfl (run_l tabOk ?_); conv => whnf) | (refine wl_cvB tabOk rfl rfl rfl rfl rfl rfl (run_l tabOk ?_); conv => whnf) | (refine wl_rem rfl rfl rfl rfl rfl rfl (by omega) (by omega) (fun r hr hr0 hr1 hr2 => run_l tabOk ?_); conv => whnf) | (refine wl_quo rfl rfl rfl rfl rfl rfl (by omega) (by omega) (by simp only [inK]; omega) (run_l tabOk ?_); conv => whnf) | (refine wl_mul rfl rfl rfl rfl rfl rfl (by omega) (by omega) (run_l tabOk ?_); conv => whnf) | (refine gs_dt (by first | assumption | omega) ?_; conv => whnf) | (refine gs_df (by first | assumption | omega) ?_; conv => whnf) | (refine gs_t (by assumption) ?_; conv => whnf) | (refine gs_f (by assumption) ?_; conv => whnf) | (refine gs_d (fun hg => ?_) (fun hg => ?_) <;> conv => whnf) | (refine gs_n (fun hg => ?_) (fun hg => ?_) <;> conv => whnf) | (refine gs_nb (fun hg => ?_) (fun hg => ?_) <;> conv => whnf) | (refine gs_b (fun hg => ?_) (fun hg => ?_) <;> conv => whnf) | refine fin1 rfl rfl ?_))

  rotate_left
  · refine fin0 rfl ⟨rfl, O, m.Vw, ?_, Stp.refl _ _⟩
    have e : pushL m.wk v = m.wk := if_pos (by assumption)
    rw [e]
    exact h
  have hm : ¬ v ∈ m.wk := by assumption
  have hgq : c.gx ∉ fq := fun hm => by have := hqO _ hm; rw [hbO] at this; cases this
  have hoq : m.go ∉ fq := fun hm => by have := hqO _ hm; rw [honO] at this; cases this
  have hbC : ∀ w', Kr w (fq ++ [m.go]) w' → w'.heap[c.gx]? = _ := fun w' h' => h'.blk hb' (by simp [hgq, hgo])
  refine wc_qx [0, 1, 2, 3, 4, 5, 6, 7, 8, 9, 10] 4 15 (stable_Kr _ (fq ++ [m.go])) tabOk mixed (by kernel_rfl) (Kept.refl _ _) ?_; (conv => whnf)
  (repeat' (first | (refine wq_LgC tabOk hbC rfl rfl rfl rfl rfl rfl rfl (run_q tabOk ?_); conv => whnf) | (refine wq_add rfl rfl rfl rfl rfl rfl (by omega) (by omega) (run_q tabOk ?_); conv => whnf) | (refine wq_sub rfl rfl rfl rfl rfl rfl (by omega) (by omega) (run_q tabOk ?_); conv => whnf) | (refine wq_cvA tabOk rfl rfl rfl (by simp only [inK]; omega) rfl rfl rfl (run_q tabOk ?_); conv => whnf) | (refine wq_cvB tabOk rfl rfl rfl rfl rfl rfl (run_q tabOk ?_); conv => whnf) | (refine wq_rem rfl rfl rfl rfl rfl rfl (by omega) (by omega) (fun r hr hr0 hr1 hr2 => run_q tabOk ?_); conv => whnf) | (refine wq_quo rfl rfl rfl rfl rfl rfl (by omega) (by omega) (by simp only [inK]; omega) (run_q tabOk ?_); conv => whnf) | (refine wq_mul rfl rfl rfl rfl rfl rfl (by omega) (by omega) (run_q tabOk ?_); conv => whnf) | (refine gs_dt (by first | assumption | omega) ?_; conv => whnf) | (refine gs_df (by first | assumption | omega) ?_; conv => whnf) | (refine gs_t (by assumption) ?_; conv => whnf) | (refine gs_f (by assumption) ?_; conv => whnf) | (refine gs_d (fun hg => ?_) (fun hg => ?_) <;> conv => whnf) | (refine gs_n (fun hg => ?_) (fun hg => ?_) <;> conv => whnf) | (refine gs_nb (fun hg => ?_) (fun hg => ?_) <;> conv => whnf) | (refine gs_b (fun hg => ?_) (fun hg => ?_) <;> conv => whnf)))
  intro W hC hBW
  conv => whnf
  refine And.intro ?_ True.intro
  conv => whnf
  refine wb_a (wa_bs tabOk 3 1 rfl rfl rfl rfl rfl rfl rfl rfl rfl ?_)
  intro g1 W1 hn1
  refine ⟨hC.up hn1.below, fun W2 hB2 hC2 => ?_⟩
  have hB := bup (bup hBW hn1.below) hB2
  have hb1 := blk_up hB2 hn1.blk
  have h2 := h.up hB 97
  clear hC hn1
  conv => whnf
  refine And.intro ?_ True.intro
  conv => whnf
  have hq2 := hq.keep (w1 := W2) fun b hb => hB.block b (hqlt b hb).2
  refine wb_a (wa_q hq2 hb1 rfl rfl rfl rfl rfl rfl rfl rfl (by omega) h2.sz ?_)
  intro A3 cap3 W3 fp3 hq3 hk3 hf3
  refine ⟨(hC2.trans hk3 (by intro b hb; exact .inl (List.mem_append_left _ hb))), fun W4 hB4 hC4 => ?_⟩
  conv => whnf
  refine And.intro ?_ True.intro
  conv => whnf
  refine wb_val rfl rfl (xn_run4 tabOk 4 1 (i := v) rfl rfl rfl rfl hv) ?_
  refine ⟨hC4, fun W5 hB5 hC5 => ?_⟩
  conv => whnf
  refine And.intro ?_ True.intro
  conv => whnf
  have hB5' : Below W3.heap.size W3 W5 := bup hB4 hB5
  have hon5 : W5.heap[m.go]? = some (.cells (onV c.n m.wk).toArray 4 (0, 0)) := by
    refine (hB5'.block m.go ?_).trans ((hk3.block m.go (by have := blk_lt hon; have := hB.size; omega) hoq).trans (blk_up hB hon))
    have := blk_lt hon; have := hB.size; have := hk3.size; omega
  refine wb_Se (v := .bool true) tabOk hon5 rfl rfl rfl rfl rfl (by simp [Value.oneCell']) (by rw [onV_len]; omega) rfl ?_
  intro W6 hp6
  refine ⟨hC5.put hp6 (.inl (by simp)), fun W7 hB7 hC7 => ?_⟩
  conv => whnf
  refine wl_S (off := 7) tabOk (hbC _ hC7) rfl rfl rfl rfl rfl rfl (by simp) rfl rfl ?_
  intro W8 hp8
  refine run_l tabOk ?_
  conv => whnf
  have hgoS : m.go < w.heap.size := blk_lt hon
  have hgxS : c.gx < w.heap.size := blk_lt hb
  have a0 := (AS.start h.all).up hB 97
  have a3 := a0.put (k := 5) (.inl (by omega)) hk3 (fun b hb _ => (a0.stp.own b (hqlt b hb).2).trans (hqO b hb)) (fp := fp3) (fun b hb => ⟨fun hlt => by
    rcases hf3 b hb with h3 | h3
    · exact (a0.stp.own b (hqlt b h3).2).trans (hqO b h3)
    · omega, (hq3.lt b hb).2⟩) (P := QRow c.base (.slice A3 (m.wk.length + 1) cap3) (m.wk ++ [v])) (fun w' hw' => hq3.keep hw')
  have a5 := a3.up hB5' 97
  have a6 := a5.putB (k := 6) (.inl (by omega)) hp6 ((a5.stp.own _ hgoS).trans honO) (P := fun fp w => fp = [m.go] ∧ w.heap[m.go]? = some (.cells (onV c.n (m.wk ++ [v])).toArray 4 (0, 0))) (fun w' hw' => ⟨rfl, by rw [hw', Nat.mul_one, onV_set]⟩)
  have a7 := a6.up hB7 97
  have a8 := a7.putB (k := 0) (.inl (by omega)) hp8 ((a7.stp.own _ hgxS).trans hbO) (P := fun fp w => fp = [c.gx] ∧ w.heap[c.gx]? = some (.cells (boxV c { m with wk := m.wk ++ [v], Vw := .slice A3 (m.wk.length + 1) cap3 }).toArray 87 (0, 0))) (fun w' hw' => ⟨rfl, hw'⟩)
  have e : pushL m.wk v = m.wk ++ [v] := if_neg hm
  refine fin0 rfl ⟨rfl, _, .slice A3 (m.wk.length + 1) cap3, ?_, a8.stp⟩
  rw [e]
  refine ⟨a8.all.imp fun j fp w' hj => ?_, a8.stp.low h.low h.sz, Nat.le_trans h.sz a8.stp.size, h.hk, ?_, ?_, h.hn, h.hx⟩
  · unfold updF at hj
    split at hj
    · rename_i e0; subst e0; exact hj
    split at hj
    · rename_i e0; subst e0; exact hj
    split at hj
    · rename_i e0; subst e0; exact hj
    rename_i n0 n6 n5
    exact comp_up (m := m) j hj rfl (fun e => absurd e n0) (fun _ => ⟨rfl, rfl⟩) (fun _ => ⟨rfl, rfl⟩) (fun _ => ⟨rfl, rfl⟩) (fun _ => ⟨rfl, rfl⟩) (fun e => absurd e n5) (fun e => absurd e n6) (fun _ _ => ⟨rfl, rfl⟩) (fun _ _ => ⟨rfl, rfl⟩) (fun _ _ => ⟨rfl, rfl⟩) (fun _ _ => ⟨rfl, rfl⟩)
  · rw [List.nodup_append]
    refine ⟨h.nd, by simp, fun a ha b hb e' => ?_⟩
    simp at hb
    subst hb
    subst e'
    exact hm ha
  · intro x hx
    rcases List.mem_append.1 hx with hx | hx
    · exact h.wl x hx
    · simp at hx; subst hx; exact hv
end Go.Proofs.YtkjbkalakafnlaaDoor
