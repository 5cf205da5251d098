/- Regions that draw their order, where several operations make blocks: each order that may be is gone through, and all come to one end. -/
import Derived.Test.YtkjbkalakafnlaaDoorE9
namespace Go.Proofs.YtkjbkalakafnlaaDoor
open Go.RowKit
set_option linter.unusedVariables false
set_option linter.unusedSimpArgs false
section
variable {P : Program} {ops : Array Oper} {md : Region.Mode} {C : World → Prop}
def runsTo (P : Program) (o : Oper) (a : Act) (w : World) (R : Value → World → Prop) : Prop :=
  (∃ v w', (execOp a.eval o).run P w = .ok (.value v) w' ∧ R v w') ∨
  (∃ f args, (execOp a.eval o).run P w = .ok (.enter f args) w ∧ Calls P f args w fun e w' => ∃ v, e = .returned v ∧ R v w') ∨
  (∃ w', (execOp a.eval o).run P w = .ok .skip w' ∧ R undef w')
theorem runsTo.mono {o : Oper} {a : Act} {w : World} {R R' : Value → World → Prop} (h : runsTo P o a w R) (k : ∀ v w', R v w' → R' v w') : runsTo P o a w R' := by
  rcases h with ⟨v, w', h1, h2⟩ | ⟨f, args, h1, h2⟩ | ⟨w', h1, h2⟩
  · exact .inl ⟨v, w', h1, k _ _ h2⟩
  · exact .inr (.inl ⟨f, args, h1, h2.mono fun e w' ⟨v, he, h3⟩ => ⟨v, he, k _ _ h3⟩⟩)
  · exact .inr (.inr ⟨w', h1, k _ _ h2⟩)
def xUp (P : Program) (C : World → Prop) (o : Oper) (a : Act) (Φ : World → Prop) (K : (World → Prop) → Act → Prop) : Prop :=
  (∃ v, quB P o a C v ∧ K Φ (a.put o.dst v)) ∨
  (∃ Ψ : Value → World → Prop, (∀ v, Stable (Ψ v)) ∧ (∀ w, C w → Φ w → runsTo P o a w fun v w' => C w' ∧ Ψ v w') ∧ ∀ v, K (Ψ v) (a.put o.dst v))
def xOp (P : Program) (ops : Array Oper) (C : World → Prop) (i : Nat) (Φ : World → Prop) (K : (World → Prop) → Act → Prop) (a : Act) : Prop :=
  match ops[i]? with
  | none => K Φ a
  | some o => if Region.wanted o (yielded ops a.tmps) then xUp P C o a Φ K else K Φ (a.put o.dst undef)
def wpX (P : Program) (md : Region.Mode) (ops : Array Oper) (C : World → Prop) (n : Nat) (L : Array Bool → (World → Prop) → Act → Prop) : Nat → Array Bool → (World → Prop) → Act → Prop
  | 0, listed, Φ, a => L listed Φ a
  | f + 1, listed, Φ, a => Region.ready md ops listed ≠ [] ∧ ∀ i ∈ Region.ready md ops listed, i < n ∧ xOp P ops C i Φ (fun Φ' a' => wpX P md ops C n L f (listed.setIfInBounds i true) Φ' a') a
theorem xUp_mono {o : Oper} {a : Act} {Φ : World → Prop} {K K' : (World → Prop) → Act → Prop} (h : ∀ Φ a, K Φ a → K' Φ a) (hh : xUp P C o a Φ K) : xUp P C o a Φ K' := by
  rcases hh with ⟨v, h1, h2⟩ | ⟨Ψ, h1, h2, h3⟩
  · exact .inl ⟨v, h1, h _ _ h2⟩
  · exact .inr ⟨Ψ, h1, h2, fun v => h _ _ (h3 v)⟩
theorem xOp_mono {i : Nat} {a : Act} {Φ : World → Prop} {K K' : (World → Prop) → Act → Prop} (h : ∀ Φ a, K Φ a → K' Φ a) (hh : xOp P ops C i Φ K a) : xOp P ops C i Φ K' a := by
  unfold xOp at *
  split
  · rename_i ho; simp only [ho] at hh; exact h _ _ hh
  · rename_i o ho
    simp only [ho] at hh
    split
    · rename_i hw; simp only [hw, if_true] at hh; exact xUp_mono h hh
    · rename_i hw; simp only [hw] at hh; exact h _ _ hh
theorem wp_of_xUp (hC : Stable C) {o : Oper} {a : Act} {Φ : World → Prop} {K : (World → Prop) → Act → Prop} {K' : Act → World → Prop} {Q' : Exit → Act → World → Prop} {w : World} (hw : C w) (hst : Stable Φ) (hΦ : Φ w)
    (h : ∀ Φ a w', Stable Φ → C w' → Φ w' → K Φ a → K' a w') (hh : xUp P C o a Φ K) : o.wp P a w K' Q' := by
  rcases hh with ⟨v, h1, h2⟩ | ⟨Ψ, h1, h2, h3⟩
  · have h3 := h1 w hw
    unfold Oper.quietAt at h3
    unfold Oper.wp
    generalize (execOp a.eval o).run P w = r at *
    cases r with
    | ok n w' =>
      cases n <;> simp only [Oper.quietUpon] at h3 <;> simp only [Oper.upon]
      case value u =>
        obtain ⟨e1, e2⟩ := h3
        rw [e1, e2]
        exact h _ _ _ hst hw hΦ h2
      case skip =>
        obtain ⟨e1, e2⟩ := h3
        rw [e1, ← e2]
        exact h _ _ _ hst hw hΦ h2
      case enter f args =>
        obtain ⟨e1, hc⟩ := h3
        rw [e1]
        exact hc.mono fun e w'' ⟨he, hw''⟩ => by subst he; exact h _ _ _ hst (hC _ _ hw hw'') (hst _ _ hΦ hw'') h2
    | halt x w' => simp only [Oper.quietUpon] at h3
  · rcases h2 w hw hΦ with ⟨v, w', h4, h5, h6⟩ | ⟨f, args, h4, h5⟩ | ⟨w', h4, h5, h6⟩
    · unfold Oper.wp
      rw [h4]
      exact h _ _ _ (h1 v) h5 h6 (h3 v)
    · unfold Oper.wp
      rw [h4]
      refine h5.mono fun e w'' ⟨v, he, h6, h7⟩ => ?_
      subst he
      exact h _ _ _ (h1 v) h6 h7 (h3 v)
    · unfold Oper.wp
      rw [h4]
      exact h _ _ _ (h1 undef) h5 h6 (h3 undef)
theorem wpOp_of_xOp (hC : Stable C) {i : Nat} {a : Act} {Φ : World → Prop} {K : (World → Prop) → Act → Prop} {K' : Act → World → Prop} {Q' : Exit → Act → World → Prop} {w : World} (hw : C w) (hst : Stable Φ) (hΦ : Φ w)
    (h : ∀ Φ a w', Stable Φ → C w' → Φ w' → K Φ a → K' a w') (hh : xOp P ops C i Φ K a) : wpOp P ops Q' i K' a w := by
  unfold xOp at hh
  unfold wpOp
  split
  · rename_i ho; simp only [ho] at hh; exact h _ _ _ hst hw hΦ hh
  · rename_i o ho
    simp only [ho] at hh
    split
    · rename_i hwn; simp only [hwn, if_true] at hh; exact .inl (wp_of_xUp hC hw hst hΦ h hh)
    · rename_i hwn; simp only [hwn] at hh; exact h _ _ _ hst hw hΦ hh
theorem wpAny_of_X (hC : Stable C) {n g : Nat} {L : Array Bool → (World → Prop) → Act → Prop} {Q' : Exit → Act → World → Prop} (hL : ∀ listed Φ a w, C w → Φ w → L listed Φ a → wpAny P md ops Q' g listed a w) :
    ∀ (f : Nat) (listed : Array Bool) (Φ : World → Prop) (a : Act) (w : World), Stable Φ → C w → Φ w → wpX P md ops C n L f listed Φ a → wpAny P md ops Q' (f + g) listed a w
  | 0, listed, Φ, a, w, _, hw, hΦ, h => by rw [Nat.zero_add]; exact hL _ _ _ _ hw hΦ h
  | f + 1, listed, Φ, a, w, hst, hw, hΦ, h => by
    rw [show f + 1 + g = (f + g) + 1 by omega]
    exact ⟨fun h0 => absurd h0 h.1, fun i hi => wpOp_of_xOp hC hw hst hΦ (fun Φ' a' w' hst' hw' hΦ' h' => wpAny_of_X hC hL f _ Φ' a' w' hst' hw' hΦ' h') (h.2 i hi).2⟩
theorem YieldsB.xOp {i : Nat} {o : Oper} {v : Value} {a : Act} (hi : ops[i]? = some o) (hy : YieldsB P ops C o v a) {Φ : World → Prop} {K : (World → Prop) → Act → Prop} (h : K Φ (a.put o.dst v)) : xOp P ops C i Φ K a := by
  unfold Proofs.YtkjbkalakafnlaaDoor.xOp
  simp only [hi]
  rcases hy with ⟨hw, hv⟩ | ⟨hw, rfl⟩
  · simp only [hw, if_true]; exact .inl ⟨v, hv, h⟩
  · simp only [hw, Bool.false_eq_true, if_false]; exact h
theorem xOp_put {j : Nat} {oi oj : Oper} {v : Value} (hj : ops[j]? = some oj) (hap : oi.apart ops oj = true)
    (hsi : ∀ cs b, oi.op ≠ .select cs b) (hsj : ∀ cs b, oj.op ≠ .select cs b) {Φ : World → Prop} {K : (World → Prop) → Act → Prop} {a : Act}
    (hy : YieldsB P ops C oi v a) (h : xOp P ops C j Φ K (a.put oi.dst v)) :
    xOp P ops C j Φ (fun Φ' a' => YieldsB P ops C oi v a' ∧ K Φ' (a'.put oi.dst v)) a := by
  obtain ⟨h1, h2, h3⟩ := Oper.apart_spec hap
  have keep : ∀ (a : Act), YieldsB P ops C oi v a → ∀ u, YieldsB P ops C oi v (a.put oj.dst u) := fun a hy u =>
    hy.of_same (execOp_put oi hsi a oj.dst u h3) (wanted_put oi a oj.dst u h3)
  unfold Proofs.YtkjbkalakafnlaaDoor.xOp at *
  simp only [hj] at *
  rw [wanted_put oj a oi.dst v h1] at h
  split
  · rename_i hw
    simp only [hw, if_true] at h
    rcases h with ⟨u, hu, hn⟩ | ⟨Ψ, g1, g2, g3⟩
    · refine .inl ⟨u, fun w hw' => ?_, keep a hy u, by rw [← Act.put_comm a v u h2]; exact hn⟩
      have := hu w hw'
      unfold Oper.quietAt at *
      rwa [execOp_put oj hsj a oi.dst v h1] at this
    · refine .inr ⟨Ψ, g1, fun w hw' hΦ' => ?_, fun u => ⟨keep a hy u, by rw [← Act.put_comm a v u h2]; exact g3 u⟩⟩
      have := g2 w hw' hΦ'
      unfold runsTo at *
      rwa [execOp_put oj hsj a oi.dst v h1] at this
  · rename_i hw
    simp only [hw] at h
    exact ⟨keep a hy _, by rw [← Act.put_comm a v undef h2]; exact h⟩
theorem wpX_first {n i : Nat} {oi : Oper} {v : Value} {L : Array Bool → (World → Prop) → Act → Prop} (hi : ops[i]? = some oi) (hsel : ∀ (j : Nat) (o : Oper) cs b, ops[j]? = some o → o.op ≠ .select cs b)
    (hs : Region.sinkB md ops n = true) (hc : Region.chainB md ops n = true) (hn : n < ops.size) (hin : i < n)
    (hdone : ∀ listed Φ a, L listed Φ a → ∀ j ∈ Region.ready md ops listed, n ≤ j) :
    ∀ (f : Nat) (listed : Array Bool) (Φ : World → Prop) (a : Act), HeadInv md ops n listed →
      (∀ j oj, ops[j]? = some oj → j ≠ i → listed.getD j true = false → (∀ e ∈ oj.after, Region.binds md e = true → e.on ≠ i) → oi.apart ops oj = true) →
      i ∈ Region.ready md ops listed → YieldsB P ops C oi v a →
      wpX P md ops C n L f (listed.setIfInBounds i true) Φ (a.put oi.dst v) → wpX P md ops C n L (f + 1) listed Φ a := by
  intro f
  induction f with
  | zero =>
    intro listed Φ a inv _ hr hy H
    have hun := (mem_ready.1 hr).1
    refine ⟨fun h => (by rw [h] at hr; cases hr), fun j hj => ?_⟩
    have hjn : j < n := by
      rcases Nat.lt_or_ge j n with h | h
      · exact h
      · exact absurd hj (tail_waits hs hc hn inv _ i rfl hin hun j h)
    refine ⟨hjn, ?_⟩
    by_cases hji : j = i
    · subst hji; exact hy.xOp hi H
    · have := hdone _ _ _ H j (ready_mono hj hji)
      omega
  | succ f ih =>
    intro listed Φ a inv hfree hr hy H
    have hun := (mem_ready.1 hr).1
    refine ⟨fun h => (by rw [h] at hr; cases hr), fun j hj => ?_⟩
    have hjn : j < n := by
      rcases Nat.lt_or_ge j n with h | h
      · exact h
      · exact absurd hj (tail_waits hs hc hn inv _ i rfl hin hun j h)
    refine ⟨hjn, ?_⟩
    by_cases hji : j = i
    · subst hji; exact hy.xOp hi H
    · have h1 := (H.2 j (ready_mono hj hji)).2
      obtain ⟨hjun, oj, hoj, hall⟩ := mem_ready.1 hj
      have hnot : ∀ e ∈ oj.after, Region.binds md e = true → e.on ≠ i := fun e he hb heq => by
        have h1 := hall e he hb
        rw [heq, getD_both hun] at h1
        cases h1
      have h2 := xOp_put hoj (hfree j oj hoj hji hjun hnot) (fun cs b => hsel i oi cs b hi) (fun cs b => hsel j oj cs b hoj) hy h1
      have hfree' : ∀ k ok, ops[k]? = some ok → k ≠ i → (listed.setIfInBounds j true).getD k true = false →
          (∀ e ∈ ok.after, Region.binds md e = true → e.on ≠ i) → oi.apart ops ok = true := fun k ok hk hki hun hno => by
        refine hfree k ok hk hki ?_ hno
        by_cases hjk : j = k
        · subst hjk; exact hjun
        · rw [getD_set_ne true hjk] at hun; exact hun
      refine xOp_mono (fun Φ' a' h3 => ih (listed.setIfInBounds j true) Φ' a' (inv.set hj hjn) hfree' (ready_mono hr (Ne.symm hji)) h3.1 ?_) h2
      rw [Array.setIfInBounds_comm _ _ hji]
      exact h3.2

/-- The orders that may be: what is known of them without a world. -/
def exB (md : Region.Mode) (ops : Array Oper) (g n : Nat) : Nat → Array Bool → Bool
  | 0, listed => Region.seqB md ops g n listed
  | f + 1, listed => !(Region.ready md ops listed).isEmpty && (Region.ready md ops listed).all fun i => decide (i < n) && ((ops[i]?).map fun o => o.guard.isNone).getD false && exB md ops g n f (listed.setIfInBounds i true)
def exA (P : Program) (md : Region.Mode) (ops : Array Oper) (C : World → Prop) (T : Act → World → Prop) : Nat → Array Bool → Act → World → Prop
  | 0, _, a, W => T a W
  | f + 1, listed, a, W => ∀ i ∈ Region.ready md ops listed, ∀ o, ops[i]? = some o → runsTo P o a W fun v w2 => C w2 ∧ ∀ W', Below w2.heap.size w2 W' → C W' → exA P md ops C T f (listed.setIfInBounds i true) (a.put o.dst v) W'
theorem wpX_of_ex {g n : Nat} {T : Act → World → Prop} : ∀ (f : Nat) (listed : Array Bool) (Φ : World → Prop) (a : Act), exB md ops g n f listed = true → (∀ W, C W → Φ W → exA P md ops C T f listed a W) →
    wpX P md ops C n (fun listed' Φ' a' => Region.seqB md ops g n listed' = true ∧ ∀ W, C W → Φ' W → T a' W) f listed Φ a
  | 0, listed, Φ, a, hB, h => ⟨hB, h⟩
  | f + 1, listed, Φ, a, hB, h => by
    simp only [exB, Bool.and_eq_true, Bool.not_eq_true', List.isEmpty_eq_false_iff, List.all_eq_true, decide_eq_true_eq] at hB
    refine ⟨hB.1, fun i hi => ?_⟩
    obtain ⟨⟨h1, h2⟩, h3⟩ := hB.2 i hi
    refine ⟨h1, ?_⟩
    cases ho : ops[i]? with
    | none => rw [ho] at h2; simp at h2
    | some o =>
      rw [ho] at h2
      have hg : o.guard = none := by simpa using h2
      unfold Proofs.YtkjbkalakafnlaaDoor.xOp
      simp only [ho]
      rw [if_pos (by simp [Region.wanted, hg])]
      refine .inr ⟨fun v W => ∃ w2, Below w2.heap.size w2 W ∧ ∀ W', Below w2.heap.size w2 W' → C W' → exA P md ops C T f (listed.setIfInBounds i true) (a.put o.dst v) W', fun v w w' ⟨w2, h1, h2⟩ hb => ⟨w2, bup h1 hb, h2⟩, fun w hw hΦ => ?_, fun v => wpX_of_ex f _ _ _ h3 fun W hW ⟨w2, h1, h2⟩ => h2 W h1 hW⟩
      exact (h w hw hΦ i hi o ho).mono fun v w2 ⟨h4, h5⟩ => ⟨h4, w2, Below.refl _ _, h5⟩
/-- The heads that read alone, in this order, then f others in any. -/
def permB (md : Region.Mode) (ops : Array Oper) (g n f : Nat) : List Nat → Array Bool → Bool
  | [], listed => exB md ops g n f listed
  | k :: qs, listed => decide (k < n) && (Region.ready md ops listed).contains k && Region.free md ops listed k && permB md ops g n f qs (listed.setIfInBounds k true)
def setAllB : List Nat → Array Bool → Array Bool
  | [], listed => listed
  | k :: qs, listed => setAllB qs (listed.setIfInBounds k true)
def opsAt (ops : Array Oper) : List Nat → List Oper
  | [] => []
  | k :: qs => match ops[k]? with
    | some o => o :: opsAt ops qs
    | none => opsAt ops qs
theorem wpX_perm {n g f : Nat} {T : Act → World → Prop} (hsel : Region.noSelect ops = true) (hs : Region.sinkB md ops n = true) (hc : Region.chainB md ops n = true) (hn : n < ops.size) :
    ∀ (qs : List Nat) (listed : Array Bool) (Φ : World → Prop) (a : Act), HeadInv md ops n listed → permB md ops g n f qs listed = true →
    wpQB P ops C (fun a' => ∀ W, C W → Φ W → exA P md ops C T f (setAllB qs listed) a' W) (opsAt ops qs) a →
    wpX P md ops C n (fun listed' Φ' a' => Region.seqB md ops g n listed' = true ∧ ∀ W, C W → Φ' W → T a' W) (qs.length + f) listed Φ a
  | [], listed, Φ, a, inv, hB, h => by
    rw [List.length_nil, Nat.zero_add]
    exact wpX_of_ex f listed Φ a hB h
  | k :: qs, listed, Φ, a, inv, hB, h => by
    simp only [permB, Bool.and_eq_true, decide_eq_true_eq] at hB
    obtain ⟨⟨⟨hkn, hr⟩, hf⟩, hB'⟩ := hB
    have hr' : k ∈ Region.ready md ops listed := by simpa using hr
    obtain ⟨o, h0⟩ : ∃ o, ops[k]? = some o := ⟨ops[k]'(by omega), by simp⟩
    have e1 : opsAt ops (k :: qs) = o :: opsAt ops qs := by simp [opsAt, h0]
    rw [e1] at h
    have key : ∃ v, YieldsB P ops C o v a ∧ wpQB P ops C (fun a' => ∀ W, C W → Φ W → exA P md ops C T f (setAllB (k :: qs) listed) a' W) (opsAt ops qs) (a.put o.dst v) := by
      unfold wpQB at h
      by_cases hw : Region.wanted o (yielded ops a.tmps) = true
      · rw [if_pos hw] at h
        obtain ⟨v, h1, h2⟩ := h
        exact ⟨v, .inl ⟨hw, h1⟩, h2⟩
      · rw [if_neg hw] at h
        exact ⟨undef, .inr ⟨by simpa using hw, rfl⟩, h⟩
    obtain ⟨v, hy, hK⟩ := key
    have e : (k :: qs).length + f = qs.length + f + 1 := by simp; omega
    rw [e]
    exact wpX_first h0 (Region.noSelect_spec hsel) hs hc hn hkn (fun listed' Φ' a' hL => seqB_ready hL.1) (qs.length + f) listed Φ a inv (Region.free_spec h0 hf) hr' hy
      (wpX_perm hsel hs hc hn qs _ Φ _ (inv.set hr' hkn) hB' hK)
def permAll (ops : Array Oper) (qs : List Nat) (f n : Nat) : Bool :=
  Region.noSelect ops && decide (n < ops.size) && decide (qs.length + f = n) && Region.sinkB .any ops n && Region.chainB .any ops n && permB .any ops (ops.size - n) n f qs (Array.replicate ops.size false)
theorem wp_region_perm {id : Nat} {Q : Exit → Act → World → Prop} {a : Act} {w : World} {l : List Oper} (qs : List Nat) (f n : Nat) (hC : Stable C) (hm : P.follows .mixedOrders = true) (hB : permAll l.toArray qs f n = true) (hCw : C w)
    (h : wpQB P l.toArray C (fun a' => ∀ W, C W → Below w.heap.size w W → exA P .any l.toArray C (wpList P l.toArray Q (l.drop n)) f (setAllB qs (Array.replicate l.toArray.size false)) a' W) (opsAt l.toArray qs) a) : (Code.region id l.toArray true).wp P Q a w := by
  simp only [permAll, Bool.and_eq_true, decide_eq_true_eq] at hB
  obtain ⟨⟨⟨⟨⟨hsel, hn⟩, hqf⟩, hs⟩, hc⟩, hperm⟩ := hB
  have hdl : (l.drop n).length = l.toArray.size - n := by simp
  have inv0 : HeadInv .any l.toArray n (Array.replicate l.toArray.size false) :=
    ⟨by simp, fun j oj _ hl => (by rw [getD_replicate_false] at hl; cases hl), fun t _ ht => getD_in (by simpa using ht) (getD_replicate_false _ _)⟩
  have H := wpX_perm (P := P) (C := C) (md := .any) (g := l.toArray.size - n) (T := wpList P l.toArray Q (l.drop n)) hsel hs hc hn qs _ (fun W => Below w.heap.size w W) a inv0 hperm h
  refine wp_region_any hm ?_
  have hst : Stable (fun W => Below w.heap.size w W) := fun _ _ h h' => bup h h'
  have hΦ : Below w.heap.size w { w with drawn := w.drawn + 1 } := ⟨rfl, rfl, rfl, Nat.le_refl _, fun _ _ => rfl⟩
  have hw' : C { w with drawn := w.drawn + 1 } := hC _ _ hCw ⟨rfl, rfl, rfl, Nat.le_refl _, fun _ _ => rfl⟩
  have := wpAny_of_X hC (Q' := Q) (g := l.toArray.size - n) (L := fun listed' Φ' a' => Region.seqB .any l.toArray (l.toArray.size - n) n listed' = true ∧ ∀ W, C W → Φ' W → wpList P l.toArray Q (l.drop n) a' W) (fun listed Φ a' W hW hΦ hL => by
    have := wpAny_of_seq (md := .any) (Q' := Q) (l.drop n) n listed a' W (fun j => by simp [List.getElem?_drop]) (by rw [hdl]; exact hL.1) (hL.2 W hW hΦ)
    rwa [hdl] at this) _ _ (fun W => Below w.heap.size w W) a _ hst hw' hΦ H
  have e : qs.length + f + (l.toArray.size - n) = l.toArray.size := by omega
  rwa [e] at this
end
/-! ### in the frames -/
section
variable {P : Program} {T : Nat → Option TI} {n : Nat} {Q : Post} {F : Fm} {w : World} {ops : Array Oper} {rest : List Oper} {o : Oper} {K : Fm → World → Prop} {C : World → Prop}
structure wb (P : Program) (n : Nat) (o : Oper) (F : Fm) (w : World) (K : Fm → World → Prop) : Prop where
  dst : dstOk n o.dst = true
  go : (∃ v w', (execOp (ev F) o).run P w = .ok (.value v) w' ∧ K (updO F o.dst v) w') ∨
    (∃ f args, (execOp (ev F) o).run P w = .ok (.enter f args) w ∧ Calls P f args w fun e w' => ∃ v, e = .returned v ∧ K (updO F o.dst v) w') ∨
    (∃ w', (execOp (ev F) o).run P w = .ok .skip w' ∧ K (updO F o.dst undef) w')
theorem wb.runs {a : Act} (h : wb P n o F w K) (ha : Fr a n F) : runsTo P o a w fun v w' => K (updO F o.dst v) w' := by
  unfold runsTo
  rw [ha.eval]
  exact h.go
theorem wb_a (h : wa P n o F w K) : wb P n o F w K := let ⟨v, w2, h1, h2, h3⟩ := h.go; ⟨h2, .inl ⟨v, w2, h1, h3⟩⟩
theorem wb_P (hT : TabOk P T) {v : Value} (h : pureF T o.op F = some v) {d : Nat} (hd : o.dst = some d) (hn : Nat.blt d n = true) (k : K (upd F d v) w) : wb P n o F w K :=
  ⟨dst_some hd hn, .inl ⟨v, w, pure_ok hT h, by rw [hd]; exact k⟩⟩
theorem wb_val {v : Value} {w1 : World} {d : Nat} (hd : o.dst = some d) (hn : Nat.blt d n = true) (hrun : (execOp (ev F) o).run P w = .ok (.value v) w1) (k : K (upd F d v) w1) : wb P n o F w K :=
  ⟨dst_some hd hn, .inl ⟨v, w1, hrun, by rw [hd]; exact k⟩⟩
theorem wb_mk (hT : TabOk P T) (e s b : Nat) {t : TypeId} {x y : Operand} {m : Nat} {i : TI} {z : List Value} (hop : o.op = .makeSlice t x y) (hx : ev F x = .int .i64 m) (hy : ev F y = .int .i64 m) (h1 : appT T t e s b = true) (hi : T e = some i) (hz : i.zero.cells = z.toArray) {d : Nat} (hd : o.dst = some d) (hn : Nat.blt d n = true)
    (hbig : b * m ≤ 281474976710656) (h63 : m ≤ 9223372036854775807)
    (k : ∀ g w1, New w w1 g (List.replicate m z).flatten e → K (upd F d (.slice (some ⟨g, 0, none⟩) m m)) w1) : wb P n o F w K := by
  obtain ⟨hu, j, z', hj, hz', hs, hby, hzs⟩ := appT_ok hT h1
  obtain ⟨j2, hj2, hz2, _, _⟩ := T_i hT hi
  rw [hj] at hj2
  cases hj2
  rw [hz'] at hz2
  cases hz2
  refine wb_val hd hn ?_ (k _ _ (new_alloc w _ e))
  have hbi : ((j.bytes : Int) * (m : Int)) ≤ 281474976710656 := by rw [hby, ← Int.natCast_mul]; omega
  have hr := run_make (P := P) w t e j i.zero hu hj hz' .i64 .i64 m m (by omega) (by omega) hbi (by omega)
  simp only [Int.toNat_natCast] at hr
  have hc : madeCells i.zero.cells (m * j.size) = ((List.replicate m z).flatten).toArray := by
    rw [← zeros_eq z m]
    have hzl : z.length = s := by rw [hz] at hzs; simpa using hzs
    unfold madeCells
    rw [hz, hs, hzl]
    apply Array.ext'
    simp [hzl]
  rw [hc] at hr
  simp [execOp, hop, hx, hy, hr]
theorem wb_C {f : FuncId} {c : Call} {x : Operand} {args : List Value} {R : Ending → World → Prop} (hf : FnOk P f) (hc : Calls P f args.toArray w R) (hop : o.op = .call c) (hcal : c.callee = .value x) (hx : ev F x = .func (.func f) #[] #[]) (hargs : c.args.toList.map (ev F) = args) {d : Nat} (hd : o.dst = some d) (hn : Nat.blt d n = true)
    (k : ∀ e w1, R e w1 → ∃ v, e = .returned v ∧ K (upd F d v) w1) : wb P n o F w K := by
  refine ⟨dst_some hd hn, .inr (.inl ⟨f, args.toArray, ?_, hc.mono fun e w' h => by rw [hd]; exact k e w' h⟩)⟩
  have : c.args.map (ev F) = args.toArray := Array.toList_inj.1 (by rw [Array.toList_map, hargs])
  simp [execOp, hop, resolve, hcal, hx, Deferred.ofValue, this, invoke, run_callFunc hf]
def allL (p : Nat → Prop) : List Nat → Prop
  | [] => True
  | i :: l => p i ∧ allL p l
theorem allL_mem {p : Nat → Prop} : ∀ {l : List Nat}, allL p l → ∀ i ∈ l, p i
  | [], _, i, h => by cases h
  | j :: l, ⟨h1, h2⟩, i, h => by
    rcases List.mem_cons.1 h with rfl | h
    · exact h1
    · exact allL_mem h2 i h
def rdyL (l : List Oper) (listed : List Bool) : List Nat :=
  (List.range l.length).filter fun i => !(listed.getD i true) && match l[i]? with
    | some o => o.after.toList.all fun e => !Region.binds .any e || listed.getD e.on false
    | none => false
theorem rdyL_eq (l : List Oper) (listed : List Bool) : Region.ready .any l.toArray listed.toArray = rdyL l listed := by
  unfold Region.ready rdyL
  have e1 : l.toArray.size = l.length := by simp
  rw [e1]
  congr 1
  funext i
  have e2 : ∀ (d : Bool) (k : Nat), listed.toArray.getD k d = listed.getD k d := fun d k => by simp [Array.getD_eq_getD_getElem?, List.getD_eq_getElem?_getD]
  rw [e2]
  congr 1
  have e3 : l.toArray[i]? = l[i]? := by simp
  rw [e3]
  cases l[i]? with
  | none => rfl
  | some o =>
    simp only [Option.map_some, Option.getD_some]
    rw [← Array.all_toList]
    congr 1
    funext e
    rw [e2]
def setAllL : List Nat → List Bool → List Bool
  | [], listed => listed
  | k :: qs, listed => setAllL qs (listed.set k true)
theorem setAllL_eq : ∀ (qs : List Nat) (listed : List Bool), setAllB qs listed.toArray = (setAllL qs listed).toArray
  | [], _ => rfl
  | k :: qs, listed => by
    simp only [setAllB, setAllL]
    rw [← setAllL_eq qs]
    congr 1
    simp
def opF (P : Program) (n : Nat) (l : List Oper) (i : Nat) (F : Fm) (w : World) (K : Fm → World → Prop) : Prop :=
  match l[i]? with
  | some o => wb P n o F w K
  | none => True
def exF (P : Program) (n : Nat) (l : List Oper) (C : World → Prop) (T : Fm → World → Prop) : Nat → List Bool → Fm → World → Prop
  | 0, _, F, W => T F W
  | f + 1, listed, F, W => allL (fun i => opF P n l i F W fun F2 w2 => C w2 ∧ ∀ W', Below w2.heap.size w2 W' → C W' → exF P n l C T f (listed.set i true) F2 W') (rdyL l listed)
theorem exA_of {l : List Oper} {T : Fm → World → Prop} {T' : Act → World → Prop} (hT' : ∀ a F W, Fr a n F → T F W → T' a W) : ∀ (f : Nat) (listed : List Bool) (a : Act) (F : Fm) (W : World), Fr a n F → exF P n l C T f listed F W → exA P .any l.toArray C T' f listed.toArray a W
  | 0, _, a, F, W, ha, h => hT' a F W ha h
  | f + 1, listed, a, F, W, ha, h => fun i hi o ho => by
    rw [rdyL_eq] at hi
    have h1 := allL_mem h i hi
    unfold opF at h1
    have ho' : l[i]? = some o := by simpa using ho
    rw [ho'] at h1
    refine (h1.runs ha).mono fun v w2 ⟨h3, h4⟩ => ⟨h3, fun W' hW' hC' => ?_⟩
    have := exA_of hT' f _ _ _ W' (ha.put h1.dst v) (h4 W' hW' hC')
    have e : (listed.set i true).toArray = listed.toArray.setIfInBounds i true := by simp
    rwa [e] at this
def opsL (l : List Oper) : List Nat → List Oper
  | [] => []
  | k :: qs => match l[k]? with
    | some o => o :: opsL l qs
    | none => opsL l qs
theorem opsL_eq (l : List Oper) : ∀ qs, opsAt l.toArray qs = opsL l qs
  | [] => rfl
  | k :: qs => by
    have e3 : l.toArray[k]? = l[k]? := by simp
    simp only [opsAt, opsL, e3, opsL_eq l qs]
/-- qs: the heads that read alone; f: how many others come ahead of the tail, which begins at number m. -/
theorem wc_qx {id : Nat} {l : List Oper} (qs : List Nat) (f m : Nat) (hC : Stable C) (hT : TabOk P T) (hm : P.follows .mixedOrders = true) (hB : permAll l.toArray qs f m = true) (hCw : C w)
    (h : runQ P T n l.toArray C (opsL l qs) (fun F' => ∀ w1, C w1 → Below w.heap.size w w1 → exF P n l C (fun F2 W => runG P T n l.toArray (l.drop m) Q F2 W) f (setAllL qs (List.replicate l.length false)) F' w1) F) : wc P n (.region id l.toArray true) Q F w := by
  unfold wc
  intro a ha
  have hq := (run_q hT h).go a ha
  rw [← opsL_eq] at hq
  refine wp_region_perm qs f m hC hm hB hCw (wpQB_mono ?_ hq)
  rintro a' ⟨F', h2, h3⟩ w1 hw1 hb1
  have := exA_of (T' := wpList P l.toArray (lift n Q) (l.drop m)) (T := fun F2 W => runG P T n l.toArray (l.drop m) Q F2 W) (fun a F W ha h => ?_) _ _ _ _ _ h2 (h3 w1 hw1 hb1)
  · rw [← setAllL_eq] at this
    have e : (List.replicate l.length false).toArray = Array.replicate l.toArray.size false := by simp
    rwa [e] at this
  · have := run_l hT h
    unfold wl at this
    exact this _ ha
/-- The region's end is one, whatever its order was. -/
theorem wc_cutR {X : Type} (S : X → List (Nat × Value)) (R : X → World → Prop) {c : Code} (h : wc P n c ⟨fun F' w' => ∃ x', holds F' (S x') ∧ R x' w', fun _ _ => False, fun _ _ _ => False⟩ F w) (k : ∀ x G w, R x w → Q.n (upds G (S x)) w) : wc P n c Q F w :=
  wc_mono h (fun F' w' ⟨x', h1, h2⟩ => by have := k x' F' w' h2; rwa [upds_of_holds h1] at this) (fun _ _ h => h.elim) (fun _ _ _ h => h.elim)
end
end Go.Proofs.YtkjbkalakafnlaaDoor
