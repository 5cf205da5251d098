/- The orders once more, where operations have guards. -/
import Derived.Test.YtkjbkalakafnlaaDoorEX
namespace Go.Proofs.YtkjbkalakafnlaaDoor
open Go.RowKit
set_option linter.unusedVariables false
set_option linter.unusedSimpArgs false
section
variable {P : Program} {ops : Array Oper} {md : Region.Mode} {C : World → Prop}
def exB2 (md : Region.Mode) (ops : Array Oper) (g n : Nat) : Nat → Array Bool → Bool
  | 0, listed => Region.seqB md ops g n listed
  | f + 1, listed => !(Region.ready md ops listed).isEmpty && (Region.ready md ops listed).all fun i => decide (i < n) && (ops[i]?).isSome && exB2 md ops g n f (listed.setIfInBounds i true)
def exA2 (P : Program) (md : Region.Mode) (ops : Array Oper) (C : World → Prop) (T : Act → World → Prop) : Nat → Array Bool → Act → World → Prop
  | 0, _, a, W => T a W
  | f + 1, listed, a, W => ∀ i ∈ Region.ready md ops listed, ∀ o, ops[i]? = some o →
    if Region.wanted o (yielded ops a.tmps) = true then runsTo P o a W fun v w2 => C w2 ∧ ∀ W', Below w2.heap.size w2 W' → C W' → exA2 P md ops C T f (listed.setIfInBounds i true) (a.put o.dst v) W'
    else exA2 P md ops C T f (listed.setIfInBounds i true) (a.put o.dst undef) W
theorem wpX_of_ex2 {g n : Nat} {T : Act → World → Prop} : ∀ (f : Nat) (listed : Array Bool) (Φ : World → Prop) (a : Act), exB2 md ops g n f listed = true → (∀ W, C W → Φ W → exA2 P md ops C T f listed a W) →
    wpX P md ops C n (fun listed' Φ' a' => Region.seqB md ops g n listed' = true ∧ ∀ W, C W → Φ' W → T a' W) f listed Φ a
  | 0, listed, Φ, a, hB, h => ⟨hB, h⟩
  | f + 1, listed, Φ, a, hB, h => by
    simp only [exB2, Bool.and_eq_true, Bool.not_eq_true', List.isEmpty_eq_false_iff, List.all_eq_true, decide_eq_true_eq] at hB
    refine ⟨hB.1, fun i hi => ?_⟩
    obtain ⟨⟨h1, h2⟩, h3⟩ := hB.2 i hi
    refine ⟨h1, ?_⟩
    cases ho : ops[i]? with
    | none => rw [ho] at h2; simp at h2
    | some o =>
      unfold Proofs.YtkjbkalakafnlaaDoor.xOp
      simp only [ho]
      by_cases hw : Region.wanted o (yielded ops a.tmps) = true
      · rw [if_pos hw]
        refine .inr ⟨fun v W => ∃ w2, Below w2.heap.size w2 W ∧ ∀ W', Below w2.heap.size w2 W' → C W' → exA2 P md ops C T f (listed.setIfInBounds i true) (a.put o.dst v) W', fun v w w' ⟨w2, h1, h2⟩ hb => ⟨w2, bup h1 hb, h2⟩, fun w hwc hΦ => ?_, fun v => wpX_of_ex2 f _ _ _ h3 fun W hW ⟨w2, h1, h2⟩ => h2 W h1 hW⟩
        have := h w hwc hΦ i hi o ho
        rw [if_pos hw] at this
        exact this.mono fun v w2 ⟨h4, h5⟩ => ⟨h4, w2, Below.refl _ _, h5⟩
      · rw [if_neg hw]
        refine wpX_of_ex2 f _ _ _ h3 fun W hW hΦ => ?_
        have := h W hW hΦ i hi o ho
        rwa [if_neg hw] at this
def permB2 (md : Region.Mode) (ops : Array Oper) (g n f : Nat) : List Nat → Array Bool → Bool
  | [], listed => exB2 md ops g n f listed
  | k :: qs, listed => decide (k < n) && (Region.ready md ops listed).contains k && Region.free md ops listed k && permB2 md ops g n f qs (listed.setIfInBounds k true)
theorem wpX_perm2 {n g f : Nat} {T : Act → World → Prop} (hsel : Region.noSelect ops = true) (hs : Region.sinkB md ops n = true) (hc : Region.chainB md ops n = true) (hn : n < ops.size) :
    ∀ (qs : List Nat) (listed : Array Bool) (Φ : World → Prop) (a : Act), HeadInv md ops n listed → permB2 md ops g n f qs listed = true →
    wpQB P ops C (fun a' => ∀ W, C W → Φ W → exA2 P md ops C T f (setAllB qs listed) a' W) (opsAt ops qs) a →
    wpX P md ops C n (fun listed' Φ' a' => Region.seqB md ops g n listed' = true ∧ ∀ W, C W → Φ' W → T a' W) (qs.length + f) listed Φ a
  | [], listed, Φ, a, inv, hB, h => by
    rw [List.length_nil, Nat.zero_add]
    exact wpX_of_ex2 f listed Φ a hB h
  | k :: qs, listed, Φ, a, inv, hB, h => by
    simp only [permB2, Bool.and_eq_true, decide_eq_true_eq] at hB
    obtain ⟨⟨⟨hkn, hr⟩, hf⟩, hB'⟩ := hB
    have hr' : k ∈ Region.ready md ops listed := by simpa using hr
    obtain ⟨o, h0⟩ : ∃ o, ops[k]? = some o := ⟨ops[k]'(by omega), by simp⟩
    have e1 : opsAt ops (k :: qs) = o :: opsAt ops qs := by simp [opsAt, h0]
    rw [e1] at h
    have key : ∃ v, YieldsB P ops C o v a ∧ wpQB P ops C (fun a' => ∀ W, C W → Φ W → exA2 P md ops C T f (setAllB (k :: qs) listed) a' W) (opsAt ops qs) (a.put o.dst v) := by
      unfold wpQB at h
      by_cases hw : Region.wanted o (yielded ops a.tmps) = true
      · rw [if_pos hw] at h
        obtain ⟨v, h1, h2⟩ := h
        exact ⟨v, .inl ⟨hw, h1⟩, h2⟩
      · rw [if_neg hw] at h
        exact ⟨undef, .inr ⟨by simpa using hw, rfl⟩, h⟩
    obtain ⟨v, hy, hK⟩ := key
    have e : (k :: qs).length + f = qs.length + f + 1 := by simp; omega
    rw [e]
    exact wpX_first h0 (Region.noSelect_spec hsel) hs hc hn hkn (fun listed' Φ' a' hL => seqB_ready hL.1) (qs.length + f) listed Φ a inv (Region.free_spec h0 hf) hr' hy
      (wpX_perm2 hsel hs hc hn qs _ Φ _ (inv.set hr' hkn) hB' hK)
def permAll2 (ops : Array Oper) (qs : List Nat) (f n : Nat) : Bool :=
  Region.noSelect ops && decide (n < ops.size) && decide (qs.length + f = n) && Region.sinkB .any ops n && Region.chainB .any ops n && permB2 .any ops (ops.size - n) n f qs (Array.replicate ops.size false)
theorem wp_region_perm2 {id : Nat} {Q : Exit → Act → World → Prop} {a : Act} {w : World} {l : List Oper} (qs : List Nat) (f n : Nat) (hC : Stable C) (hm : P.follows .mixedOrders = true) (hB : permAll2 l.toArray qs f n = true) (hCw : C w)
    (h : wpQB P l.toArray C (fun a' => ∀ W, C W → Below w.heap.size w W → exA2 P .any l.toArray C (wpList P l.toArray Q (l.drop n)) f (setAllB qs (Array.replicate l.toArray.size false)) a' W) (opsAt l.toArray qs) a) : (Code.region id l.toArray true).wp P Q a w := by
  simp only [permAll2, Bool.and_eq_true, decide_eq_true_eq] at hB
  obtain ⟨⟨⟨⟨⟨hsel, hn⟩, hqf⟩, hs⟩, hc⟩, hperm⟩ := hB
  have hdl : (l.drop n).length = l.toArray.size - n := by simp
  have inv0 : HeadInv .any l.toArray n (Array.replicate l.toArray.size false) :=
    ⟨by simp, fun j oj _ hl => (by rw [getD_replicate_false] at hl; cases hl), fun t _ ht => getD_in (by simpa using ht) (getD_replicate_false _ _)⟩
  have H := wpX_perm2 (P := P) (C := C) (md := .any) (g := l.toArray.size - n) (T := wpList P l.toArray Q (l.drop n)) hsel hs hc hn qs _ (fun W => Below w.heap.size w W) a inv0 hperm h
  refine wp_region_any hm ?_
  have hst : Stable (fun W => Below w.heap.size w W) := fun _ _ h h' => bup h h'
  have hΦ : Below w.heap.size w { w with drawn := w.drawn + 1 } := ⟨rfl, rfl, rfl, Nat.le_refl _, fun _ _ => rfl⟩
  have hw' : C { w with drawn := w.drawn + 1 } := hC _ _ hCw ⟨rfl, rfl, rfl, Nat.le_refl _, fun _ _ => rfl⟩
  have := wpAny_of_X hC (Q' := Q) (g := l.toArray.size - n) (L := fun listed' Φ' a' => Region.seqB .any l.toArray (l.toArray.size - n) n listed' = true ∧ ∀ W, C W → Φ' W → wpList P l.toArray Q (l.drop n) a' W) (fun listed Φ a' W hW hΦ hL => by
    have := wpAny_of_seq (md := .any) (Q' := Q) (l.drop n) n listed a' W (fun j => by simp [List.getElem?_drop]) (by rw [hdl]; exact hL.1) (hL.2 W hW hΦ)
    rwa [hdl] at this) _ _ (fun W => Below w.heap.size w W) a _ hst hw' hΦ H
  have e : qs.length + f + (l.toArray.size - n) = l.toArray.size := by omega
  rwa [e] at this
end
section
variable {P : Program} {T : Nat → Option TI} {n : Nat} {Q : Post} {F : Fm} {w : World} {ops : Array Oper} {o : Oper} {C : World → Prop}
def opF2 (P : Program) (n : Nat) (l : List Oper) (i : Nat) (F : Fm) (w : World) (K Ku : Fm → World → Prop) : Prop :=
  match l[i]? with
  | none => True
  | some o => match o.guard with
    | none => wb P n o F w K
    | some (j, b) => match l[j]? with
      | none => False
      | some oj => match oj.dst, o.dst with
        | some t, some d => bif Nat.blt t n && Nat.blt d n then (match F t with
          | .bool c => gs c (match b with | true => wb P n (ung o) F w K | false => Ku (upd F d undef) w) (match b with | true => Ku (upd F d undef) w | false => wb P n (ung o) F w K)
          | _ => False) else False
        | _, _ => False
def exF2 (P : Program) (n : Nat) (l : List Oper) (C : World → Prop) (T : Fm → World → Prop) : Nat → List Bool → Fm → World → Prop
  | 0, _, F, W => T F W
  | f + 1, listed, F, W => allL (fun i => opF2 P n l i F W (fun F2 w2 => C w2 ∧ ∀ W', Below w2.heap.size w2 W' → C W' → exF2 P n l C T f (listed.set i true) F2 W') fun F2 W2 => exF2 P n l C T f (listed.set i true) F2 W2) (rdyL l listed)
theorem wanted_eq {l : List Oper} {o oj : Oper} {j : Nat} {b c : Bool} {t : Tmp} {a : Act} (ha : Fr a n F) (hg : o.guard = some (j, b)) (hj : l[j]? = some oj) (ht : oj.dst = some t) (hb : F t = .bool c) (hn : Nat.blt t n = true) : Region.wanted o (yielded l.toArray a.tmps) = (c == b) := by
  have hlt : t < a.tmps.size := by rw [ha.size]; exact nblt hn
  have h1 := ha.get t
  rw [hb, Array.getD_eq_getD_getElem?, Array.getElem?_eq_getElem hlt] at h1
  have hj' : l.toArray[j]? = some oj := by simpa using hj
  simp only [Region.wanted, hg, yielded, hj', Option.bind_some, ht, Array.getElem?_eq_getElem hlt]
  simp at h1
  simp [h1]
theorem runs_ung {a : Act} {R : Value → World → Prop} (h : runsTo P (ung o) a w R) : runsTo P o a w R := h
theorem exA2_of {l : List Oper} {T : Fm → World → Prop} {T' : Act → World → Prop} (hT' : ∀ a F W, Fr a n F → T F W → T' a W) : ∀ (f : Nat) (listed : List Bool) (a : Act) (F : Fm) (W : World), Fr a n F → exF2 P n l C T f listed F W → exA2 P .any l.toArray C T' f listed.toArray a W
  | 0, _, a, F, W, ha, h => hT' a F W ha h
  | f + 1, listed, a, F, W, ha, h => fun i hi o ho => by
    rw [rdyL_eq] at hi
    have h1 := allL_mem h i hi
    unfold opF2 at h1
    have ho' : l[i]? = some o := by simpa using ho
    rw [ho'] at h1
    have e : (listed.set i true).toArray = listed.toArray.setIfInBounds i true := by simp
    have fin : ∀ {o' : Oper}, o'.dst = o.dst → wb P n o' F W (fun F2 w2 => C w2 ∧ ∀ W', Below w2.heap.size w2 W' → C W' → exF2 P n l C T f (listed.set i true) F2 W') → runsTo P o' a W fun v w2 => C w2 ∧ ∀ W', Below w2.heap.size w2 W' → C W' → exA2 P .any l.toArray C T' f (listed.toArray.setIfInBounds i true) (a.put o.dst v) W' := fun {o'} he hw => by
      refine (hw.runs ha).mono fun v w2 ⟨h3, h4⟩ => ⟨h3, fun W' hW' hC' => ?_⟩
      have hd : dstOk n o.dst = true := by rw [← he]; exact hw.dst
      rw [he] at h4
      have := exA2_of hT' f _ _ _ W' (ha.put hd v) (h4 W' hW' hC')
      rwa [e] at this
    cases hg : o.guard with
    | none =>
      simp only [hg] at h1
      rw [if_pos (by simp [Region.wanted, hg])]
      exact fin rfl h1
    | some jb =>
      obtain ⟨j, b⟩ := jb
      simp only [hg] at h1
      cases hj : l[j]? with
      | none => rw [hj] at h1; exact h1.elim
      | some oj =>
        rw [hj] at h1
        simp only at h1
        cases ht : oj.dst with
        | none => rw [ht] at h1; exact h1.elim
        | some t =>
          cases hd : o.dst with
          | none => rw [ht, hd] at h1; exact h1.elim
          | some d =>
            rw [ht, hd] at h1
            simp only at h1
            cases hb : (Nat.blt t n && Nat.blt d n) with
            | false => rw [hb] at h1; exact h1.elim
            | true =>
              rw [hb] at h1
              simp only [cond_true] at h1
              have hbb := Bool.and_eq_true_iff.1 hb
              cases hv : F t <;> rw [hv] at h1 <;> try exact h1.elim
              rename_i c
              have hw := wanted_eq ha hg hj ht hv hbb.1
              rw [hw]
              have un : exF2 P n l C T f (listed.set i true) (upd F d undef) W → exA2 P .any l.toArray C T' f (listed.toArray.setIfInBounds i true) (a.put (some d) undef) W := fun hk => by
                have h5 := ha.put (d := some d) (by exact hbb.2) undef
                have := exA2_of hT' f _ _ _ W h5 hk
                rwa [e] at this
              have fn := fin (o' := ung o) rfl
              rw [hd] at fn
              cases c <;> cases b <;> simp only [gs] at h1
              · rw [if_pos (by decide)]; exact runs_ung (fn h1)
              · rw [if_neg (by decide)]; exact un h1
              · rw [if_neg (by decide)]; exact un h1
              · rw [if_pos (by decide)]; exact runs_ung (fn h1)
theorem wc_qg {id : Nat} {l : List Oper} (qs : List Nat) (f m : Nat) (hC : Stable C) (hT : TabOk P T) (hm : P.follows .mixedOrders = true) (hB : permAll2 l.toArray qs f m = true) (hCw : C w)
    (h : runQ P T n l.toArray C (opsL l qs) (fun F' => ∀ w1, C w1 → Below w.heap.size w w1 → exF2 P n l C (fun F2 W => runG P T n l.toArray (l.drop m) Q F2 W) f (setAllL qs (List.replicate l.length false)) F' w1) F) : wc P n (.region id l.toArray true) Q F w := by
  unfold wc
  intro a ha
  have hq := (run_q hT h).go a ha
  rw [← opsL_eq] at hq
  refine wp_region_perm2 qs f m hC hm hB hCw (wpQB_mono ?_ hq)
  rintro a' ⟨F', h2, h3⟩ w1 hw1 hb1
  have := exA2_of (T' := wpList P l.toArray (lift n Q) (l.drop m)) (T := fun F2 W => runG P T n l.toArray (l.drop m) Q F2 W) (fun a F W ha h => ?_) _ _ _ _ _ h2 (h3 w1 hw1 hb1)
  · rw [← setAllL_eq] at this
    have e : (List.replicate l.length false).toArray = Array.replicate l.toArray.size false := by simp
    rwa [e] at this
  · have := run_l hT h
    unfold wl at this
    exact this _ ha
end
end Go.Proofs.YtkjbkalakafnlaaDoor
