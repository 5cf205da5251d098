/- Several texts of one claim in one file: EX EX2 EX3 E10 U0 PL03 PK03. -/
import Derived.Test.YtjggjhgbobmkhaaC4
import Derived.Laws.Slices
import Derived.Laws.CopyRow
import Derived.Laws.Bits64b
import Derived.Laws.Shifts
import Derived.Lib.AppendZerosOnto
import Derived.Lib.TrailingZeros
/- Regions that draw their order, where several operations make blocks: each order that may be is gone through, and all come to one end. -/
namespace Go.Proofs.Ytjggjhgbobmkhaa
open Go.RowKit
set_option linter.unusedVariables false
set_option linter.unusedSimpArgs false
section
variable {P : Program} {ops : Array Oper} {md : Region.Mode} {C : World → Prop}
def runsTo (P : Program) (o : Oper) (a : Act) (w : World) (R : Value → World → Prop) : Prop :=
  (∃ v w', (execOp a.eval o).run P w = .ok (.value v) w' ∧ R v w') ∨
  (∃ f args, (execOp a.eval o).run P w = .ok (.enter f args) w ∧ Calls P f args w fun e w' => ∃ v, e = .returned v ∧ R v w') ∨
  (∃ w', (execOp a.eval o).run P w = .ok .skip w' ∧ R undef w')
theorem runsTo.mono {o : Oper} {a : Act} {w : World} {R R' : Value → World → Prop} (h : runsTo P o a w R) (k : ∀ v w', R v w' → R' v w') : runsTo P o a w R' := by
  rcases h with ⟨v, w', h1, h2⟩ | ⟨f, args, h1, h2⟩ | ⟨w', h1, h2⟩
  · exact .inl ⟨v, w', h1, k _ _ h2⟩
  · exact .inr (.inl ⟨f, args, h1, h2.mono fun e w' ⟨v, he, h3⟩ => ⟨v, he, k _ _ h3⟩⟩)
  · exact .inr (.inr ⟨w', h1, k _ _ h2⟩)
def xUp (P : Program) (C : World → Prop) (o : Oper) (a : Act) (Φ : World → Prop) (K : (World → Prop) → Act → Prop) : Prop :=
  (∃ v, quB P o a C v ∧ K Φ (a.put o.dst v)) ∨
  (∃ Ψ : Value → World → Prop, (∀ v, Stable (Ψ v)) ∧ (∀ w, C w → Φ w → runsTo P o a w fun v w' => C w' ∧ Ψ v w') ∧ ∀ v, K (Ψ v) (a.put o.dst v))
def xOp (P : Program) (ops : Array Oper) (C : World → Prop) (i : Nat) (Φ : World → Prop) (K : (World → Prop) → Act → Prop) (a : Act) : Prop :=
  match ops[i]? with
  | none => K Φ a
  | some o => if Region.wanted o (yielded ops a.tmps) then xUp P C o a Φ K else K Φ (a.put o.dst undef)
def wpX (P : Program) (md : Region.Mode) (ops : Array Oper) (C : World → Prop) (n : Nat) (L : Array Bool → (World → Prop) → Act → Prop) : Nat → Array Bool → (World → Prop) → Act → Prop
  | 0, listed, Φ, a => L listed Φ a
  | f + 1, listed, Φ, a => Region.ready md ops listed ≠ [] ∧ ∀ i ∈ Region.ready md ops listed, i < n ∧ xOp P ops C i Φ (fun Φ' a' => wpX P md ops C n L f (listed.setIfInBounds i true) Φ' a') a
theorem xUp_mono {o : Oper} {a : Act} {Φ : World → Prop} {K K' : (World → Prop) → Act → Prop} (h : ∀ Φ a, K Φ a → K' Φ a) (hh : xUp P C o a Φ K) : xUp P C o a Φ K' := by
  rcases hh with ⟨v, h1, h2⟩ | ⟨Ψ, h1, h2, h3⟩
  · exact .inl ⟨v, h1, h _ _ h2⟩
  · exact .inr ⟨Ψ, h1, h2, fun v => h _ _ (h3 v)⟩
theorem xOp_mono {i : Nat} {a : Act} {Φ : World → Prop} {K K' : (World → Prop) → Act → Prop} (h : ∀ Φ a, K Φ a → K' Φ a) (hh : xOp P ops C i Φ K a) : xOp P ops C i Φ K' a := by
  unfold xOp at *
  split
  · rename_i ho; simp only [ho] at hh; exact h _ _ hh
  · rename_i o ho
    simp only [ho] at hh
    split
    · rename_i hw; simp only [hw, if_true] at hh; exact xUp_mono h hh
    · rename_i hw; simp only [hw] at hh; exact h _ _ hh
theorem wp_of_xUp (hC : Stable C) {o : Oper} {a : Act} {Φ : World → Prop} {K : (World → Prop) → Act → Prop} {K' : Act → World → Prop} {Q' : Exit → Act → World → Prop} {w : World} (hw : C w) (hst : Stable Φ) (hΦ : Φ w)
    (h : ∀ Φ a w', Stable Φ → C w' → Φ w' → K Φ a → K' a w') (hh : xUp P C o a Φ K) : o.wp P a w K' Q' := by
  rcases hh with ⟨v, h1, h2⟩ | ⟨Ψ, h1, h2, h3⟩
  · have h3 := h1 w hw
    unfold Oper.quietAt at h3
    unfold Oper.wp
    generalize (execOp a.eval o).run P w = r at *
    cases r with
    | ok n w' =>
      cases n <;> simp only [Oper.quietUpon] at h3 <;> simp only [Oper.upon]
      case value u =>
        obtain ⟨e1, e2⟩ := h3
        rw [e1, e2]
        exact h _ _ _ hst hw hΦ h2
      case skip =>
        obtain ⟨e1, e2⟩ := h3
        rw [e1, ← e2]
        exact h _ _ _ hst hw hΦ h2
      case enter f args =>
        obtain ⟨e1, hc⟩ := h3
        rw [e1]
        exact hc.mono fun e w'' ⟨he, hw''⟩ => by subst he; exact h _ _ _ hst (hC _ _ hw hw'') (hst _ _ hΦ hw'') h2
    | halt x w' => simp only [Oper.quietUpon] at h3
  · rcases h2 w hw hΦ with ⟨v, w', h4, h5, h6⟩ | ⟨f, args, h4, h5⟩ | ⟨w', h4, h5, h6⟩
    · unfold Oper.wp
      rw [h4]
      exact h _ _ _ (h1 v) h5 h6 (h3 v)
    · unfold Oper.wp
      rw [h4]
      refine h5.mono fun e w'' ⟨v, he, h6, h7⟩ => ?_
      subst he
      exact h _ _ _ (h1 v) h6 h7 (h3 v)
    · unfold Oper.wp
      rw [h4]
      exact h _ _ _ (h1 undef) h5 h6 (h3 undef)
theorem wpOp_of_xOp (hC : Stable C) {i : Nat} {a : Act} {Φ : World → Prop} {K : (World → Prop) → Act → Prop} {K' : Act → World → Prop} {Q' : Exit → Act → World → Prop} {w : World} (hw : C w) (hst : Stable Φ) (hΦ : Φ w)
    (h : ∀ Φ a w', Stable Φ → C w' → Φ w' → K Φ a → K' a w') (hh : xOp P ops C i Φ K a) : wpOp P ops Q' i K' a w := by
  unfold xOp at hh
  unfold wpOp
  split
  · rename_i ho; simp only [ho] at hh; exact h _ _ _ hst hw hΦ hh
  · rename_i o ho
    simp only [ho] at hh
    split
    · rename_i hwn; simp only [hwn, if_true] at hh; exact .inl (wp_of_xUp hC hw hst hΦ h hh)
    · rename_i hwn; simp only [hwn] at hh; exact h _ _ _ hst hw hΦ hh
theorem wpAny_of_X (hC : Stable C) {n g : Nat} {L : Array Bool → (World → Prop) → Act → Prop} {Q' : Exit → Act → World → Prop} (hL : ∀ listed Φ a w, C w → Φ w → L listed Φ a → wpAny P md ops Q' g listed a w) :
    ∀ (f : Nat) (listed : Array Bool) (Φ : World → Prop) (a : Act) (w : World), Stable Φ → C w → Φ w → wpX P md ops C n L f listed Φ a → wpAny P md ops Q' (f + g) listed a w
  | 0, listed, Φ, a, w, _, hw, hΦ, h => by rw [Nat.zero_add]; exact hL _ _ _ _ hw hΦ h
  | f + 1, listed, Φ, a, w, hst, hw, hΦ, h => by
    rw [show f + 1 + g = (f + g) + 1 by omega]
    exact ⟨fun h0 => absurd h0 h.1, fun i hi => wpOp_of_xOp hC hw hst hΦ (fun Φ' a' w' hst' hw' hΦ' h' => wpAny_of_X hC hL f _ Φ' a' w' hst' hw' hΦ' h') (h.2 i hi).2⟩
theorem YieldsB.xOp {i : Nat} {o : Oper} {v : Value} {a : Act} (hi : ops[i]? = some o) (hy : YieldsB P ops C o v a) {Φ : World → Prop} {K : (World → Prop) → Act → Prop} (h : K Φ (a.put o.dst v)) : xOp P ops C i Φ K a := by
  unfold Proofs.Ytjggjhgbobmkhaa.xOp
  simp only [hi]
  rcases hy with ⟨hw, hv⟩ | ⟨hw, rfl⟩
  · simp only [hw, if_true]; exact .inl ⟨v, hv, h⟩
  · simp only [hw, Bool.false_eq_true, if_false]; exact h
theorem xOp_put {j : Nat} {oi oj : Oper} {v : Value} (hj : ops[j]? = some oj) (hap : oi.apart ops oj = true)
    (hsi : ∀ cs b, oi.op ≠ .select cs b) (hsj : ∀ cs b, oj.op ≠ .select cs b) {Φ : World → Prop} {K : (World → Prop) → Act → Prop} {a : Act}
    (hy : YieldsB P ops C oi v a) (h : xOp P ops C j Φ K (a.put oi.dst v)) :
    xOp P ops C j Φ (fun Φ' a' => YieldsB P ops C oi v a' ∧ K Φ' (a'.put oi.dst v)) a := by
  obtain ⟨h1, h2, h3⟩ := Oper.apart_spec hap
  have keep : ∀ (a : Act), YieldsB P ops C oi v a → ∀ u, YieldsB P ops C oi v (a.put oj.dst u) := fun a hy u =>
    hy.of_same (execOp_put oi hsi a oj.dst u h3) (wanted_put oi a oj.dst u h3)
  unfold Proofs.Ytjggjhgbobmkhaa.xOp at *
  simp only [hj] at *
  rw [wanted_put oj a oi.dst v h1] at h
  split
  · rename_i hw
    simp only [hw, if_true] at h
    rcases h with ⟨u, hu, hn⟩ | ⟨Ψ, g1, g2, g3⟩
    · refine .inl ⟨u, fun w hw' => ?_, keep a hy u, by rw [← Act.put_comm a v u h2]; exact hn⟩
      have := hu w hw'
      unfold Oper.quietAt at *
      rwa [execOp_put oj hsj a oi.dst v h1] at this
    · refine .inr ⟨Ψ, g1, fun w hw' hΦ' => ?_, fun u => ⟨keep a hy u, by rw [← Act.put_comm a v u h2]; exact g3 u⟩⟩
      have := g2 w hw' hΦ'
      unfold runsTo at *
      rwa [execOp_put oj hsj a oi.dst v h1] at this
  · rename_i hw
    simp only [hw] at h
    exact ⟨keep a hy _, by rw [← Act.put_comm a v undef h2]; exact h⟩
theorem wpX_first {n i : Nat} {oi : Oper} {v : Value} {L : Array Bool → (World → Prop) → Act → Prop} (hi : ops[i]? = some oi) (hsel : ∀ (j : Nat) (o : Oper) cs b, ops[j]? = some o → o.op ≠ .select cs b)
    (hs : Region.sinkB md ops n = true) (hc : Region.chainB md ops n = true) (hn : n < ops.size) (hin : i < n)
    (hdone : ∀ listed Φ a, L listed Φ a → ∀ j ∈ Region.ready md ops listed, n ≤ j) :
    ∀ (f : Nat) (listed : Array Bool) (Φ : World → Prop) (a : Act), HeadInv md ops n listed →
      (∀ j oj, ops[j]? = some oj → j ≠ i → listed.getD j true = false → (∀ e ∈ oj.after, Region.binds md e = true → e.on ≠ i) → oi.apart ops oj = true) →
      i ∈ Region.ready md ops listed → YieldsB P ops C oi v a →
      wpX P md ops C n L f (listed.setIfInBounds i true) Φ (a.put oi.dst v) → wpX P md ops C n L (f + 1) listed Φ a := by
  intro f
  induction f with
  | zero =>
    intro listed Φ a inv _ hr hy H
    have hun := (mem_ready.1 hr).1
    refine ⟨fun h => (by rw [h] at hr; cases hr), fun j hj => ?_⟩
    have hjn : j < n := by
      rcases Nat.lt_or_ge j n with h | h
      · exact h
      · exact absurd hj (tail_waits hs hc hn inv _ i rfl hin hun j h)
    refine ⟨hjn, ?_⟩
    by_cases hji : j = i
    · subst hji; exact hy.xOp hi H
    · have := hdone _ _ _ H j (ready_mono hj hji)
      omega
  | succ f ih =>
    intro listed Φ a inv hfree hr hy H
    have hun := (mem_ready.1 hr).1
    refine ⟨fun h => (by rw [h] at hr; cases hr), fun j hj => ?_⟩
    have hjn : j < n := by
      rcases Nat.lt_or_ge j n with h | h
      · exact h
      · exact absurd hj (tail_waits hs hc hn inv _ i rfl hin hun j h)
    refine ⟨hjn, ?_⟩
    by_cases hji : j = i
    · subst hji; exact hy.xOp hi H
    · have h1 := (H.2 j (ready_mono hj hji)).2
      obtain ⟨hjun, oj, hoj, hall⟩ := mem_ready.1 hj
      have hnot : ∀ e ∈ oj.after, Region.binds md e = true → e.on ≠ i := fun e he hb heq => by
        have h1 := hall e he hb
        rw [heq, getD_both hun] at h1
        cases h1
      have h2 := xOp_put hoj (hfree j oj hoj hji hjun hnot) (fun cs b => hsel i oi cs b hi) (fun cs b => hsel j oj cs b hoj) hy h1
      have hfree' : ∀ k ok, ops[k]? = some ok → k ≠ i → (listed.setIfInBounds j true).getD k true = false →
          (∀ e ∈ ok.after, Region.binds md e = true → e.on ≠ i) → oi.apart ops ok = true := fun k ok hk hki hun hno => by
        refine hfree k ok hk hki ?_ hno
        by_cases hjk : j = k
        · subst hjk; exact hjun
        · rw [getD_set_ne true hjk] at hun; exact hun
      refine xOp_mono (fun Φ' a' h3 => ih (listed.setIfInBounds j true) Φ' a' (inv.set hj hjn) hfree' (ready_mono hr (Ne.symm hji)) h3.1 ?_) h2
      rw [Array.setIfInBounds_comm _ _ hji]
      exact h3.2

/-- The orders that may be: what is known of them without a world. -/
def exB (md : Region.Mode) (ops : Array Oper) (g n : Nat) : Nat → Array Bool → Bool
  | 0, listed => Region.seqB md ops g n listed
  | f + 1, listed => !(Region.ready md ops listed).isEmpty && (Region.ready md ops listed).all fun i => decide (i < n) && ((ops[i]?).map fun o => o.guard.isNone).getD false && exB md ops g n f (listed.setIfInBounds i true)
def exA (P : Program) (md : Region.Mode) (ops : Array Oper) (C : World → Prop) (T : Act → World → Prop) : Nat → Array Bool → Act → World → Prop
  | 0, _, a, W => T a W
  | f + 1, listed, a, W => ∀ i ∈ Region.ready md ops listed, ∀ o, ops[i]? = some o → runsTo P o a W fun v w2 => C w2 ∧ ∀ W', Below w2.heap.size w2 W' → C W' → exA P md ops C T f (listed.setIfInBounds i true) (a.put o.dst v) W'
theorem wpX_of_ex {g n : Nat} {T : Act → World → Prop} : ∀ (f : Nat) (listed : Array Bool) (Φ : World → Prop) (a : Act), exB md ops g n f listed = true → (∀ W, C W → Φ W → exA P md ops C T f listed a W) →
    wpX P md ops C n (fun listed' Φ' a' => Region.seqB md ops g n listed' = true ∧ ∀ W, C W → Φ' W → T a' W) f listed Φ a
  | 0, listed, Φ, a, hB, h => ⟨hB, h⟩
  | f + 1, listed, Φ, a, hB, h => by
    simp only [exB, Bool.and_eq_true, Bool.not_eq_true', List.isEmpty_eq_false_iff, List.all_eq_true, decide_eq_true_eq] at hB
    refine ⟨hB.1, fun i hi => ?_⟩
    obtain ⟨⟨h1, h2⟩, h3⟩ := hB.2 i hi
    refine ⟨h1, ?_⟩
    cases ho : ops[i]? with
    | none => rw [ho] at h2; simp at h2
    | some o =>
      rw [ho] at h2
      have hg : o.guard = none := by simpa using h2
      unfold Proofs.Ytjggjhgbobmkhaa.xOp
      simp only [ho]
      rw [if_pos (by simp [Region.wanted, hg])]
      refine .inr ⟨fun v W => ∃ w2, Below w2.heap.size w2 W ∧ ∀ W', Below w2.heap.size w2 W' → C W' → exA P md ops C T f (listed.setIfInBounds i true) (a.put o.dst v) W', fun v w w' ⟨w2, h1, h2⟩ hb => ⟨w2, bup h1 hb, h2⟩, fun w hw hΦ => ?_, fun v => wpX_of_ex f _ _ _ h3 fun W hW ⟨w2, h1, h2⟩ => h2 W h1 hW⟩
      exact (h w hw hΦ i hi o ho).mono fun v w2 ⟨h4, h5⟩ => ⟨h4, w2, Below.refl _ _, h5⟩
/-- The heads that read alone, in this order, then f others in any. -/
def permB (md : Region.Mode) (ops : Array Oper) (g n f : Nat) : List Nat → Array Bool → Bool
  | [], listed => exB md ops g n f listed
  | k :: qs, listed => decide (k < n) && (Region.ready md ops listed).contains k && Region.free md ops listed k && permB md ops g n f qs (listed.setIfInBounds k true)
def setAllB : List Nat → Array Bool → Array Bool
  | [], listed => listed
  | k :: qs, listed => setAllB qs (listed.setIfInBounds k true)
def opsAt (ops : Array Oper) : List Nat → List Oper
  | [] => []
  | k :: qs => match ops[k]? with
    | some o => o :: opsAt ops qs
    | none => opsAt ops qs
theorem wpX_perm {n g f : Nat} {T : Act → World → Prop} (hsel : Region.noSelect ops = true) (hs : Region.sinkB md ops n = true) (hc : Region.chainB md ops n = true) (hn : n < ops.size) :
    ∀ (qs : List Nat) (listed : Array Bool) (Φ : World → Prop) (a : Act), HeadInv md ops n listed → permB md ops g n f qs listed = true →
    wpQB P ops C (fun a' => ∀ W, C W → Φ W → exA P md ops C T f (setAllB qs listed) a' W) (opsAt ops qs) a →
    wpX P md ops C n (fun listed' Φ' a' => Region.seqB md ops g n listed' = true ∧ ∀ W, C W → Φ' W → T a' W) (qs.length + f) listed Φ a
  | [], listed, Φ, a, inv, hB, h => by
    rw [List.length_nil, Nat.zero_add]
    exact wpX_of_ex f listed Φ a hB h
  | k :: qs, listed, Φ, a, inv, hB, h => by
    simp only [permB, Bool.and_eq_true, decide_eq_true_eq] at hB
    obtain ⟨⟨⟨hkn, hr⟩, hf⟩, hB'⟩ := hB
    have hr' : k ∈ Region.ready md ops listed := by simpa using hr
    obtain ⟨o, h0⟩ : ∃ o, ops[k]? = some o := ⟨ops[k]'(by omega), by simp⟩
    have e1 : opsAt ops (k :: qs) = o :: opsAt ops qs := by simp [opsAt, h0]
    rw [e1] at h
    have key : ∃ v, YieldsB P ops C o v a ∧ wpQB P ops C (fun a' => ∀ W, C W → Φ W → exA P md ops C T f (setAllB (k :: qs) listed) a' W) (opsAt ops qs) (a.put o.dst v) := by
      unfold wpQB at h
      by_cases hw : Region.wanted o (yielded ops a.tmps) = true
      · rw [if_pos hw] at h
        obtain ⟨v, h1, h2⟩ := h
        exact ⟨v, .inl ⟨hw, h1⟩, h2⟩
      · rw [if_neg hw] at h
        exact ⟨undef, .inr ⟨by simpa using hw, rfl⟩, h⟩
    obtain ⟨v, hy, hK⟩ := key
    have e : (k :: qs).length + f = qs.length + f + 1 := by simp; omega
    rw [e]
    exact wpX_first h0 (Region.noSelect_spec hsel) hs hc hn hkn (fun listed' Φ' a' hL => seqB_ready hL.1) (qs.length + f) listed Φ a inv (Region.free_spec h0 hf) hr' hy
      (wpX_perm hsel hs hc hn qs _ Φ _ (inv.set hr' hkn) hB' hK)
def permAll (ops : Array Oper) (qs : List Nat) (f n : Nat) : Bool :=
  Region.noSelect ops && decide (n < ops.size) && decide (qs.length + f = n) && Region.sinkB .any ops n && Region.chainB .any ops n && permB .any ops (ops.size - n) n f qs (Array.replicate ops.size false)
theorem wp_region_perm {id : Nat} {Q : Exit → Act → World → Prop} {a : Act} {w : World} {l : List Oper} (qs : List Nat) (f n : Nat) (hC : Stable C) (hm : P.follows .mixedOrders = true) (hB : permAll l.toArray qs f n = true) (hCw : C w)
    (h : wpQB P l.toArray C (fun a' => ∀ W, C W → Below w.heap.size w W → exA P .any l.toArray C (wpList P l.toArray Q (l.drop n)) f (setAllB qs (Array.replicate l.toArray.size false)) a' W) (opsAt l.toArray qs) a) : (Code.region id l.toArray true).wp P Q a w := by
  simp only [permAll, Bool.and_eq_true, decide_eq_true_eq] at hB
  obtain ⟨⟨⟨⟨⟨hsel, hn⟩, hqf⟩, hs⟩, hc⟩, hperm⟩ := hB
  have hdl : (l.drop n).length = l.toArray.size - n := by simp
  have inv0 : HeadInv .any l.toArray n (Array.replicate l.toArray.size false) :=
    ⟨by simp, fun j oj _ hl => (by rw [getD_replicate_false] at hl; cases hl), fun t _ ht => getD_in (by simpa using ht) (getD_replicate_false _ _)⟩
  have H := wpX_perm (P := P) (C := C) (md := .any) (g := l.toArray.size - n) (T := wpList P l.toArray Q (l.drop n)) hsel hs hc hn qs _ (fun W => Below w.heap.size w W) a inv0 hperm h
  refine wp_region_any hm ?_
  have hst : Stable (fun W => Below w.heap.size w W) := fun _ _ h h' => bup h h'
  have hΦ : Below w.heap.size w { w with drawn := w.drawn + 1 } := ⟨rfl, rfl, rfl, Nat.le_refl _, fun _ _ => rfl⟩
  have hw' : C { w with drawn := w.drawn + 1 } := hC _ _ hCw ⟨rfl, rfl, rfl, Nat.le_refl _, fun _ _ => rfl⟩
  have := wpAny_of_X hC (Q' := Q) (g := l.toArray.size - n) (L := fun listed' Φ' a' => Region.seqB .any l.toArray (l.toArray.size - n) n listed' = true ∧ ∀ W, C W → Φ' W → wpList P l.toArray Q (l.drop n) a' W) (fun listed Φ a' W hW hΦ hL => by
    have := wpAny_of_seq (md := .any) (Q' := Q) (l.drop n) n listed a' W (fun j => by simp [List.getElem?_drop]) (by rw [hdl]; exact hL.1) (hL.2 W hW hΦ)
    rwa [hdl] at this) _ _ (fun W => Below w.heap.size w W) a _ hst hw' hΦ H
  have e : qs.length + f + (l.toArray.size - n) = l.toArray.size := by omega
  rwa [e] at this
end
/-! ### in the frames -/
section
variable {P : Program} {T : Nat → Option TI} {n : Nat} {Q : Post} {F : Fm} {w : World} {ops : Array Oper} {rest : List Oper} {o : Oper} {K : Fm → World → Prop} {C : World → Prop}
structure wb (P : Program) (n : Nat) (o : Oper) (F : Fm) (w : World) (K : Fm → World → Prop) : Prop where
  dst : dstOk n o.dst = true
  go : (∃ v w', (execOp (ev F) o).run P w = .ok (.value v) w' ∧ K (updO F o.dst v) w') ∨
    (∃ f args, (execOp (ev F) o).run P w = .ok (.enter f args) w ∧ Calls P f args w fun e w' => ∃ v, e = .returned v ∧ K (updO F o.dst v) w') ∨
    (∃ w', (execOp (ev F) o).run P w = .ok .skip w' ∧ K (updO F o.dst undef) w')
theorem wb.runs {a : Act} (h : wb P n o F w K) (ha : Fr a n F) : runsTo P o a w fun v w' => K (updO F o.dst v) w' := by
  unfold runsTo
  rw [ha.eval]
  exact h.go
theorem wb_a (h : wa P n o F w K) : wb P n o F w K := let ⟨v, w2, h1, h2, h3⟩ := h.go; ⟨h2, .inl ⟨v, w2, h1, h3⟩⟩
theorem wb_P (hT : TabOk P T) {v : Value} (h : pureF T o.op F = some v) {d : Nat} (hd : o.dst = some d) (hn : Nat.blt d n = true) (k : K (upd F d v) w) : wb P n o F w K :=
  ⟨dst_some hd hn, .inl ⟨v, w, pure_ok hT h, by rw [hd]; exact k⟩⟩
theorem wb_val {v : Value} {w1 : World} {d : Nat} (hd : o.dst = some d) (hn : Nat.blt d n = true) (hrun : (execOp (ev F) o).run P w = .ok (.value v) w1) (k : K (upd F d v) w1) : wb P n o F w K :=
  ⟨dst_some hd hn, .inl ⟨v, w1, hrun, by rw [hd]; exact k⟩⟩
theorem wb_mk (hT : TabOk P T) (e s b : Nat) {t : TypeId} {x y : Operand} {m : Nat} {i : TI} {z : List Value} (hop : o.op = .makeSlice t x y) (hx : ev F x = .int .i64 m) (hy : ev F y = .int .i64 m) (h1 : appT T t e s b = true) (hi : T e = some i) (hz : i.zero.cells = z.toArray) {d : Nat} (hd : o.dst = some d) (hn : Nat.blt d n = true)
    (hbig : b * m ≤ 281474976710656) (h63 : m ≤ 9223372036854775807)
    (k : ∀ g w1, New w w1 g (List.replicate m z).flatten e → K (upd F d (.slice (some ⟨g, 0, none⟩) m m)) w1) : wb P n o F w K := by
  obtain ⟨hu, j, z', hj, hz', hs, hby, hzs⟩ := appT_ok hT h1
  obtain ⟨j2, hj2, hz2, _, _⟩ := T_i hT hi
  rw [hj] at hj2
  cases hj2
  rw [hz'] at hz2
  cases hz2
  refine wb_val hd hn ?_ (k _ _ (new_alloc w _ e))
  have hbi : ((j.bytes : Int) * (m : Int)) ≤ 281474976710656 := by rw [hby, ← Int.natCast_mul]; omega
  have hr := run_make (P := P) w t e j i.zero hu hj hz' .i64 .i64 m m (by omega) (by omega) hbi (by omega)
  simp only [Int.toNat_natCast] at hr
  have hc : madeCells i.zero.cells (m * j.size) = ((List.replicate m z).flatten).toArray := by
    rw [← zeros_eq z m]
    have hzl : z.length = s := by rw [hz] at hzs; simpa using hzs
    unfold madeCells
    rw [hz, hs, hzl]
    apply Array.ext'
    simp [hzl]
  rw [hc] at hr
  simp [execOp, hop, hx, hy, hr]
theorem wb_C {f : FuncId} {c : Call} {x : Operand} {args : List Value} {R : Ending → World → Prop} (hf : FnOk P f) (hc : Calls P f args.toArray w R) (hop : o.op = .call c) (hcal : c.callee = .value x) (hx : ev F x = .func (.func f) #[] #[]) (hargs : c.args.toList.map (ev F) = args) {d : Nat} (hd : o.dst = some d) (hn : Nat.blt d n = true)
    (k : ∀ e w1, R e w1 → ∃ v, e = .returned v ∧ K (upd F d v) w1) : wb P n o F w K := by
  refine ⟨dst_some hd hn, .inr (.inl ⟨f, args.toArray, ?_, hc.mono fun e w' h => by rw [hd]; exact k e w' h⟩)⟩
  have : c.args.map (ev F) = args.toArray := Array.toList_inj.1 (by rw [Array.toList_map, hargs])
  simp [execOp, hop, resolve, hcal, hx, Deferred.ofValue, this, invoke, run_callFunc hf]
def allL (p : Nat → Prop) : List Nat → Prop
  | [] => True
  | i :: l => p i ∧ allL p l
theorem allL_mem {p : Nat → Prop} : ∀ {l : List Nat}, allL p l → ∀ i ∈ l, p i
  | [], _, i, h => by cases h
  | j :: l, ⟨h1, h2⟩, i, h => by
    rcases List.mem_cons.1 h with rfl | h
    · exact h1
    · exact allL_mem h2 i h
def rdyL (l : List Oper) (listed : List Bool) : List Nat :=
  (List.range l.length).filter fun i => !(listed.getD i true) && match l[i]? with
    | some o => o.after.toList.all fun e => !Region.binds .any e || listed.getD e.on false
    | none => false
theorem rdyL_eq (l : List Oper) (listed : List Bool) : Region.ready .any l.toArray listed.toArray = rdyL l listed := by
  unfold Region.ready rdyL
  have e1 : l.toArray.size = l.length := by simp
  rw [e1]
  congr 1
  funext i
  have e2 : ∀ (d : Bool) (k : Nat), listed.toArray.getD k d = listed.getD k d := fun d k => by simp [Array.getD_eq_getD_getElem?, List.getD_eq_getElem?_getD]
  rw [e2]
  congr 1
  have e3 : l.toArray[i]? = l[i]? := by simp
  rw [e3]
  cases l[i]? with
  | none => rfl
  | some o =>
    simp only [Option.map_some, Option.getD_some]
    rw [← Array.all_toList]
    congr 1
    funext e
    rw [e2]
def setAllL : List Nat → List Bool → List Bool
  | [], listed => listed
  | k :: qs, listed => setAllL qs (listed.set k true)
theorem setAllL_eq : ∀ (qs : List Nat) (listed : List Bool), setAllB qs listed.toArray = (setAllL qs listed).toArray
  | [], _ => rfl
  | k :: qs, listed => by
    simp only [setAllB, setAllL]
    rw [← setAllL_eq qs]
    congr 1
    simp
def opF (P : Program) (n : Nat) (l : List Oper) (i : Nat) (F : Fm) (w : World) (K : Fm → World → Prop) : Prop :=
  match l[i]? with
  | some o => wb P n o F w K
  | none => True
def exF (P : Program) (n : Nat) (l : List Oper) (C : World → Prop) (T : Fm → World → Prop) : Nat → List Bool → Fm → World → Prop
  | 0, _, F, W => T F W
  | f + 1, listed, F, W => allL (fun i => opF P n l i F W fun F2 w2 => C w2 ∧ ∀ W', Below w2.heap.size w2 W' → C W' → exF P n l C T f (listed.set i true) F2 W') (rdyL l listed)
theorem exA_of {l : List Oper} {T : Fm → World → Prop} {T' : Act → World → Prop} (hT' : ∀ a F W, Fr a n F → T F W → T' a W) : ∀ (f : Nat) (listed : List Bool) (a : Act) (F : Fm) (W : World), Fr a n F → exF P n l C T f listed F W → exA P .any l.toArray C T' f listed.toArray a W
  | 0, _, a, F, W, ha, h => hT' a F W ha h
  | f + 1, listed, a, F, W, ha, h => fun i hi o ho => by
    rw [rdyL_eq] at hi
    have h1 := allL_mem h i hi
    unfold opF at h1
    have ho' : l[i]? = some o := by simpa using ho
    rw [ho'] at h1
    refine (h1.runs ha).mono fun v w2 ⟨h3, h4⟩ => ⟨h3, fun W' hW' hC' => ?_⟩
    have := exA_of hT' f _ _ _ W' (ha.put h1.dst v) (h4 W' hW' hC')
    have e : (listed.set i true).toArray = listed.toArray.setIfInBounds i true := by simp
    rwa [e] at this
def opsL (l : List Oper) : List Nat → List Oper
  | [] => []
  | k :: qs => match l[k]? with
    | some o => o :: opsL l qs
    | none => opsL l qs
theorem opsL_eq (l : List Oper) : ∀ qs, opsAt l.toArray qs = opsL l qs
  | [] => rfl
  | k :: qs => by
    have e3 : l.toArray[k]? = l[k]? := by simp
    simp only [opsAt, opsL, e3, opsL_eq l qs]
/-- qs: the heads that read alone; f: how many others come ahead of the tail, which begins at number m. -/
theorem wc_qx {id : Nat} {l : List Oper} (qs : List Nat) (f m : Nat) (hC : Stable C) (hT : TabOk P T) (hm : P.follows .mixedOrders = true) (hB : permAll l.toArray qs f m = true) (hCw : C w)
    (h : runQ P T n l.toArray C (opsL l qs) (fun F' => ∀ w1, C w1 → Below w.heap.size w w1 → exF P n l C (fun F2 W => runG P T n l.toArray (l.drop m) Q F2 W) f (setAllL qs (List.replicate l.length false)) F' w1) F) : wc P n (.region id l.toArray true) Q F w := by
  unfold wc
  intro a ha
  have hq := (run_q hT h).go a ha
  rw [← opsL_eq] at hq
  refine wp_region_perm qs f m hC hm hB hCw (wpQB_mono ?_ hq)
  rintro a' ⟨F', h2, h3⟩ w1 hw1 hb1
  have := exA_of (T' := wpList P l.toArray (lift n Q) (l.drop m)) (T := fun F2 W => runG P T n l.toArray (l.drop m) Q F2 W) (fun a F W ha h => ?_) _ _ _ _ _ h2 (h3 w1 hw1 hb1)
  · rw [← setAllL_eq] at this
    have e : (List.replicate l.length false).toArray = Array.replicate l.toArray.size false := by simp
    rwa [e] at this
  · have := run_l hT h
    unfold wl at this
    exact this _ ha
/-- The region's end is one, whatever its order was. -/
theorem wc_cutR {X : Type} (S : X → List (Nat × Value)) (R : X → World → Prop) {c : Code} (h : wc P n c ⟨fun F' w' => ∃ x', holds F' (S x') ∧ R x' w', fun _ _ => False, fun _ _ _ => False⟩ F w) (k : ∀ x G w, R x w → Q.n (upds G (S x)) w) : wc P n c Q F w :=
  wc_mono h (fun F' w' ⟨x', h1, h2⟩ => by have := k x' F' w' h2; rwa [upds_of_holds h1] at this) (fun _ _ h => h.elim) (fun _ _ _ h => h.elim)
end
end Go.Proofs.Ytjggjhgbobmkhaa

/- The orders once more, where operations have guards. -/
namespace Go.Proofs.Ytjggjhgbobmkhaa
open Go.RowKit
set_option linter.unusedVariables false
set_option linter.unusedSimpArgs false
section
variable {P : Program} {ops : Array Oper} {md : Region.Mode} {C : World → Prop}
end
section
variable {P : Program} {T : Nat → Option TI} {n : Nat} {Q : Post} {F : Fm} {w : World} {ops : Array Oper} {o : Oper} {C : World → Prop}
end
end Go.Proofs.Ytjggjhgbobmkhaa

/- Rows whose elements look at elder blocks; loads in drawn regions with several makes. -/
namespace Go.Proofs.Ytjggjhgbobmkhaa
open Go.RowKit
set_option linter.unusedVariables false
set_option linter.unusedSimpArgs false
/-- A row of the call's own whose elements look at elder blocks alone. -/
structure LRow {α : Type} [Inhabited α] (sz : Nat) (d : Dec α) (e : TypeId) (base : Nat) (w0 w : World) (v : Value) (xs : List α) : Prop where
  own : ∃ flat, w.ownsRow base e sz v xs.length flat ∧ ∀ w', Below w0.heap.size w0 w' → Elems sz d w' flat xs
section
variable {α : Type} [Inhabited α] {sz : Nat} {d : Dec α} {e : TypeId} {base : Nat} {w0 w w1 : World} {v v' : Value} {xs : List α}
theorem LRow.nil (sz : Nat) (d : Dec α) (e : TypeId) (base : Nat) (w0 w : World) : LRow sz d e base w0 w (.slice none 0 0) ([] : List α) := ⟨[], own_nil .., fun _ _ => Elems.nil ..⟩
theorem LRow.up (h : LRow sz d e base w0 w v xs) (hb : Below w.heap.size w w1) : LRow sz d e base w0 w1 v xs := by
  obtain ⟨flat, h1, h2⟩ := h.own
  exact ⟨flat, h1.kept (grown_of hb) (Classical.em _), h2⟩
theorem LRow.row (h : LRow sz d e base w0 w v xs) (hb : Below w0.heap.size w0 w) : ∃ A c, v = .slice A xs.length c ∧ xs.length ≤ c ∧ RowR sz d w A xs := by
  obtain ⟨flat, h1, h2⟩ := h.own
  exact row_of_own h1 rfl (h2 w hb)
theorem LRow.rowAt {A : Option Addr} {n c : Nat} (h : LRow sz d e base w0 w (.slice A n c) xs) (hb : Below w0.heap.size w0 w) : RowR sz d w A xs := by
  obtain ⟨A', c', e1, _, h2⟩ := h.row hb
  injection e1 with e1 _ _
  subst e1
  exact h2
end
section
variable {P : Program} {T : Nat → Option TI} {n : Nat} {F : Fm} {w : World} {o : Oper} {K : Fm → World → Prop}
end
end Go.Proofs.Ytjggjhgbobmkhaa

/- Steps: cuts of rows, shifts, and, or, copies of elements of several cells, of made rows. -/
namespace Go.Proofs.Ytjggjhgbobmkhaa
open Go.RowKit
set_option linter.unusedVariables false
set_option linter.unusedSimpArgs false
theorem addr_add0 (a : Addr) : a.add 0 = a := by unfold Addr.add; simp
def cutA (A : Option Addr) (m c s : Nat) : Option Addr := if c = m then A else A.map (·.add (m * s))
section
variable {P : Program} {T : Nat → Option TI} {n : Nat} {F : Fm} {w : World} {ops : Array Oper} {rest : List Oper} {o : Oper} {K : Fm → Prop} {C : World → Prop}
theorem elem_of {t e : Nat} (hu : P.underlying t = some (.slice e)) : P.underlying t = some (.slice (P.elem t)) := by
  have : P.elem t = e := by simp [Program.elem, hu]
  rw [this]; exact hu
theorem sliceH_run (hT : TabOk P T) (e s : Nat) {t : TypeId} {x y : Operand} {A : Option Addr} {l c : Nat} {ki : IntKind} {h : Int} (hop : o.op = .slice t x none (some y) none) (hx : ev F x = .slice A l c) (hy : ev F y = .int ki h) (h1 : sliceT T t e s = true) (h0 : 0 ≤ h) (hc : h ≤ c) :
    (execOp (ev F) o).run P w = .ok (.value (.slice A h.toNat c)) w := by
  obtain ⟨hu, hs⟩ := sliceT_ok (w := w) hT h1
  have he : P.elem t = e := by simp [Program.elem, hu]
  have hr := run_slice_h (P := P) (w := w) t A l c (elem_of hu) ki h h0 hc
  rw [he, hs] at hr
  have e1 : sliced A 0 h.toNat c s = .slice A h.toNat c := by
    unfold sliced
    cases A <;> simp [addr_add0]
  simp only [Result.andThen, e1] at hr
  have hr2 := run_sliceAt_slice (P := P) (w := w) t (.slice A l c) none (some (.int ki h)) none (elem_of hu)
  rw [hr] at hr2
  simp [execOp, hop, hx, hy, hr2]
theorem sliceL_run (hT : TabOk P T) (e s : Nat) {t : TypeId} {x y : Operand} {A : Option Addr} {l c : Nat} {ki : IntKind} {h : Int} (hop : o.op = .slice t x (some y) none none) (hx : ev F x = .slice A l c) (hy : ev F y = .int ki h) (h1 : sliceT T t e s = true) (h0 : 0 ≤ h) (hc : h ≤ l) :
    (execOp (ev F) o).run P w = .ok (.value (.slice (cutA A h.toNat c s) (l - h.toNat) (c - h.toNat))) w := by
  obtain ⟨hu, hs⟩ := sliceT_ok (w := w) hT h1
  have he : P.elem t = e := by simp [Program.elem, hu]
  have hr := run_slice_l (P := P) (w := w) t A l c (elem_of hu) ki h h0 hc
  rw [he, hs] at hr
  simp only [Result.andThen, sliced] at hr
  have hr2 := run_sliceAt_slice (P := P) (w := w) t (.slice A l c) (some (.int ki h)) none none (elem_of hu)
  rw [hr] at hr2
  simp [execOp, hop, hx, hy, hr2, cutA]
theorem wq_slL (hT : TabOk P T) (e s : Nat) {t : TypeId} {x y : Operand} {A : Option Addr} {l c : Nat} {ki : IntKind} {h : Int} (hop : o.op = .slice t x (some y) none none) (hx : ev F x = .slice A l c) (hy : ev F y = .int ki h) (h1 : sliceT T t e s = true) (hg : o.guard = none) {d : Nat} (hd : o.dst = some d) (hn : Nat.blt d n = true) (h0 : 0 ≤ h) (hc : h ≤ l)
    (k : wq P n ops C rest K (upd F d (.slice (cutA A h.toNat c s) (l - h.toNat) (c - h.toNat)))) : wq P n ops C (o :: rest) K F := wq_val hg hd hn (fun _ _ => sliceL_run hT e s hop hx hy h1 h0 hc) k
end
theorem RowR.take {α : Type} [Inhabited α] {sz : Nat} {d : Dec α} {w : World} {A : Option Addr} {xs : List α} (h : RowR sz d w A xs) (k : Nat) : RowR sz d w A (xs.take k) := by
  refine ⟨Nat.le_trans (by simp; omega) h.1, fun i hi => ?_⟩
  have hi' : i < xs.length := by simp at hi; omega
  obtain ⟨ad, cs, e1, e2, e3, e4⟩ := h.2 i hi'
  refine ⟨ad, cs, e1, e2, e3, ?_⟩
  rw [getElem!_pos _ i hi, List.getElem_take]
  rwa [getElem!_pos xs i hi'] at e4
theorem RowR.drop {α : Type} [Inhabited α] {sz : Nat} {d : Dec α} {w : World} {A : Option Addr} {xs : List α} (h : RowR sz d w A xs) (m c : Nat) (hc : xs.length ≤ c) : RowR sz d w (cutA A m c sz) (xs.drop m) := by
  refine ⟨Nat.le_trans (by simp) h.1, fun i hi => ?_⟩
  have hi' : m + i < xs.length := by simp at hi; omega
  obtain ⟨ad, cs, e1, e2, e3, e4⟩ := h.2 (m + i) hi'
  subst e1
  refine ⟨ad.add (m * sz), cs, by unfold cutA; rw [if_neg (by omega)]; rfl, e2, fun j u hu => ?_, ?_⟩
  · rw [add_add, show m * sz + (i * sz + j) = (m + i) * sz + j by rw [Nat.add_mul]; omega]
    exact e3 j u hu
  · rw [getElem!_pos _ i hi, List.getElem_drop]
    rwa [getElem!_pos xs (m + i) hi'] at e4
section
variable {P : Program} {T : Nat → Option TI} {n : Nat} {Q : Post} {F : Fm} {w : World} {ops : Array Oper} {rest : List Oper} {o : Oper} {K : Fm → Prop} {C : World → Prop}
theorem wl_slH (hT : TabOk P T) (e s : Nat) {t : TypeId} {x y : Operand} {A : Option Addr} {l c : Nat} {ki : IntKind} {h : Int} (hop : o.op = .slice t x none (some y) none) (hx : ev F x = .slice A l c) (hy : ev F y = .int ki h) (h1 : sliceT T t e s = true) (hg : o.guard = none) {d : Nat} (hd : o.dst = some d) (hn : Nat.blt d n = true) (h0 : 0 ≤ h) (hc : h ≤ c)
    (k : wl P n ops rest Q (upd F d (.slice A h.toNat c)) w) : wl P n ops (o :: rest) Q F w := wl_val hg hd hn (sliceH_run hT e s hop hx hy h1 h0 hc) k
theorem wl_slL (hT : TabOk P T) (e s : Nat) {t : TypeId} {x y : Operand} {A : Option Addr} {l c : Nat} {ki : IntKind} {h : Int} (hop : o.op = .slice t x (some y) none none) (hx : ev F x = .slice A l c) (hy : ev F y = .int ki h) (h1 : sliceT T t e s = true) (hg : o.guard = none) {d : Nat} (hd : o.dst = some d) (hn : Nat.blt d n = true) (h0 : 0 ≤ h) (hc : h ≤ l)
    (k : wl P n ops rest Q (upd F d (.slice (cutA A h.toNat c s) (l - h.toNat) (c - h.toNat))) w) : wl P n ops (o :: rest) Q F w := wl_val hg hd hn (sliceL_run hT e s hop hx hy h1 h0 hc) k
/-! ### shifts, bits -/
theorem shr_run {x y : Operand} {xt yt : TypeId} {k yk : IntKind} {a b : Int} (hop : o.op = .binOp .shr xt x y yt) (hx : ev F x = .int k a) (hy : ev F y = .int yk b) (h0 : 0 ≤ b) : (execOp (ev F) o).run P w = .ok (.value (.int k (a / 2 ^ min b.toNat k.bits))) w := by
  simp [execOp, hop, hx, hy, eqGuard, binOp, shift_shr_any k yk a b h0]
theorem shl_run {x y : Operand} {xt yt : TypeId} {k yk : IntKind} {a b : Int} (hop : o.op = .binOp .shl xt x y yt) (hx : ev F x = .int k a) (hy : ev F y = .int yk b) (h0 : 0 ≤ b) : (execOp (ev F) o).run P w = .ok (.value (.int k (k.wrap (a * 2 ^ min b.toNat k.bits)))) w := by
  simp [execOp, hop, hx, hy, eqGuard, binOp, shift_shl_any k yk a b h0]
def isBit : BinOp → Bool
  | .and | .or | .xor | .andNot => true
  | _ => false
theorem bits_run {op : BinOp} {x y : Operand} {xt yt : TypeId} {k : IntKind} {a b : Int} (hop : o.op = .binOp op xt x y yt) (hx : ev F x = .int k a) (hy : ev F y = .int k b) (hb : isBit op = true) : (execOp (ev F) o).run P w = .ok (.value (.int k (bits op k a b))) w := by
  cases op <;> simp only [isBit, Bool.false_eq_true] at hb <;> simp [execOp, hop, hx, hy, eqGuard, binOp, intBits_and, intBits_or, intBits_xor, intBits_andNot]
theorem wl_shr {x y : Operand} {xt yt : TypeId} {k yk : IntKind} {a b r : Int} (hr : a / 2 ^ min b.toNat k.bits = r) (hop : o.op = .binOp .shr xt x y yt) (hx : ev F x = .int k a) (hy : ev F y = .int yk b) (h0 : 0 ≤ b) (hg : o.guard = none) {d : Nat} (hd : o.dst = some d) (hn : Nat.blt d n = true)
    (kk : wl P n ops rest Q (upd F d (.int k r)) w) : wl P n ops (o :: rest) Q F w := wl_val hg hd hn (by rw [shr_run hop hx hy h0, hr]) kk
theorem wl_shl {x y : Operand} {xt yt : TypeId} {k yk : IntKind} {a b r : Int} (hr : k.wrap (a * 2 ^ min b.toNat k.bits) = r) (hop : o.op = .binOp .shl xt x y yt) (hx : ev F x = .int k a) (hy : ev F y = .int yk b) (h0 : 0 ≤ b) (hg : o.guard = none) {d : Nat} (hd : o.dst = some d) (hn : Nat.blt d n = true)
    (kk : wl P n ops rest Q (upd F d (.int k r)) w) : wl P n ops (o :: rest) Q F w := wl_val hg hd hn (by rw [shl_run hop hx hy h0, hr]) kk
theorem wl_bit {op : BinOp} {x y : Operand} {xt yt : TypeId} {k : IntKind} {a b r : Int} (hr : bits op k a b = r) (hop : o.op = .binOp op xt x y yt) (hx : ev F x = .int k a) (hy : ev F y = .int k b) (hb : isBit op = true) (hg : o.guard = none) {d : Nat} (hd : o.dst = some d) (hn : Nat.blt d n = true)
    (kk : wl P n ops rest Q (upd F d (.int k r)) w) : wl P n ops (o :: rest) Q F w := wl_val hg hd hn (by rw [bits_run hop hx hy hb, hr]) kk
theorem wl_addr {x y : Operand} {xt yt : TypeId} {k : IntKind} {a b r : Int} (hr : k.wrap (a + b) = r) (hop : o.op = .binOp .add xt x y yt) (hx : ev F x = .int k a) (hy : ev F y = .int k b) (hg : o.guard = none) {d : Nat} (hd : o.dst = some d) (hn : Nat.blt d n = true)
    (kk : wl P n ops rest Q (upd F d (.int k r)) w) : wl P n ops (o :: rest) Q F w := wl_addw hop hx hy hg hd hn (by rw [hr]; exact kk)
/-! ### copies -/
theorem copy_run (hT : TabOk P T) (e s b : Nat) {t t2 t' : TypeId} {c : Call} {x y : Operand} {g off dl dc sl sc m : Nat} {a : Addr} {cur : List Value} (cs : List Value) (hb : w.heap[g]? = some (.cells cur.toArray t' (0, 0))) (hop : o.op = .call c) (hcal : c.callee = .builtin .copy) (hargs : c.args.toList = [x, y]) (htys : c.argTypes.toList = [t, t2])
    (hx : ev F x = .slice (some ⟨g, off, none⟩) dl dc) (hy : ev F y = .slice (some a) sl sc) (h1 : appT T t e s b = true) (hm : m = min sl dl)
    (hl : cs.length = m * s) (hsrc : ∀ j v, cs[j]? = some v → w.cell? (a.add j) = some v) (hfit : off + cs.length ≤ cur.length) (hone : ∀ v ∈ cs, v.oneCell' = true) :
    ∃ w1, (execOp (ev F) o).run P w = .ok (.value (goInt m)) w1 ∧ Put w w1 g (cur.take off ++ cs ++ cur.drop (off + cs.length)) t' := by
  obtain ⟨hu, j, z, hj, hz, hs, hby, hzs⟩ := appT_ok hT h1
  obtain ⟨callee, ⟨args⟩, ⟨tys⟩⟩ := c
  simp only at hcal hargs htys
  subst hcal hargs htys
  have hl2 := run_loadCells_list (P := P) w a cs hsrc
  have hst := run_storeCells_at P g off t' cs 0 cur.toArray w hb (by simpa using hfit) hone
  rw [hl] at hl2
  have hmm : Nat.min sl dl = m := hm.symm
  refine ⟨_, ?_, ⟨by simp [World.setRow], setRow_heap w g cur.toArray _ t' _ hb, ⟨rfl, rfl, rfl, by simp [World.setRow], fun k _ hk => setRow_other w g k _ (fun e => hk (by simp [e]))⟩⟩⟩
  simp [execOp, hop, resolve, invoke, builtin, hx, hy, Builtin.copy_, run_underlying hu, Builtin.lenOf, Builtin.firstCells, sizeOf, typeInfo, hj, hs, hmm, hl2, hst]
theorem wl_cp (hT : TabOk P T) (e s b : Nat) {t t2 t' : TypeId} {c : Call} {x y : Operand} {g off dl dc sl sc m : Nat} {a : Addr} {cur : List Value} (cs : List Value) (hb : w.heap[g]? = some (.cells cur.toArray t' (0, 0))) (hop : o.op = .call c) (hcal : c.callee = .builtin .copy) (hargs : c.args.toList = [x, y]) (htys : c.argTypes.toList = [t, t2])
    (hx : ev F x = .slice (some ⟨g, off, none⟩) dl dc) (hy : ev F y = .slice (some a) sl sc) (h1 : appT T t e s b = true) (hm : m = min sl dl) (hg : o.guard = none) {d : Nat} (hd : o.dst = some d) (hn : Nat.blt d n = true)
    (hl : cs.length = m * s) (hsrc : ∀ j v, cs[j]? = some v → w.cell? (a.add j) = some v) (hfit : off + cs.length ≤ cur.length) (hone : ∀ v ∈ cs, v.oneCell' = true)
    (k : ∀ w1, Put w w1 g (cur.take off ++ cs ++ cur.drop (off + cs.length)) t' → wl P n ops rest Q (upd F d (goInt m)) w1) : wl P n ops (o :: rest) Q F w := by
  obtain ⟨w1, hr, hp⟩ := copy_run hT e s b cs hb hop hcal hargs htys hx hy h1 hm hl hsrc hfit hone
  exact wl_val hg hd hn hr (k w1 hp)
end
end Go.Proofs.Ytjggjhgbobmkhaa

/- Small things that many texts use. -/
namespace Go.Proofs.Ytjggjhgbobmkhaa
open Go.RowKit
set_option linter.unusedVariables false
set_option linter.unusedSimpArgs false
def vb (xs : List Bool) : List Value := xs.map Value.bool
theorem fold_take {α β : Type} [Inhabited α] (f : β → α → β) (z : β) {xs : List α} {i : Nat} (h : i < xs.length) : (xs.take (i + 1)).foldl f z = f ((xs.take i).foldl f z) xs[i]! := by
  have e : xs.take (i + 1) = xs.take i ++ [xs[i]!] := by
    rw [getElem!_pos xs i h]
    simp
  rw [e, List.foldl_append]
  rfl
theorem fold_all {α β : Type} (f : β → α → β) (z : β) {xs : List α} {i : Nat} (h : ¬ i < xs.length) : (xs.take i).foldl f z = xs.foldl f z := by rw [List.take_of_length_le (by omega)]
theorem below_of_grown {w w1 : World} (h : w.grownBy w1 none) : Below w.heap.size w w1 := ⟨h.os, h.tape, h.output, h.size, fun k hk => h.block k hk nofun⟩
theorem gints_push {base : Nat} {w w1 : World} {v v' : Value} {ys : List Int} {flat : List Value} {y : Int} (h : GInts base w v ys) (hflat : ∀ w', (∀ b ∈ ([] : List Nat), w'.heap[b]? = w.heap[b]?) → Elems 1 (dI .i64) w' flat ys) (hown : w1.ownsRow base 3 1 v' (ys.length + 1) (flat ++ [.int .i64 y])) (hg : w.grownBy w1 v.ownBlock)
    (hob : v'.ownBlock = v.ownBlock ∨ v'.ownBlock = some w.heap.size) (hy : -9223372036854775808 ≤ y ∧ y ≤ 9223372036854775807) : GInts base w1 v' (ys ++ [y]) := by
  have := h.push hflat hown hg hob rfl (bs' := []) (x := y) (fun w' _ => ⟨rfl, hy⟩) (by simp) (by simp)
  simpa using this
theorem mem_own {v : Value} {b : Nat} (h : b ∈ v.ownBlock.toList) : v.ownBlock = some b := by simpa using h
end Go.Proofs.Ytjggjhgbobmkhaa

/- Plain: sets of numbers in blocks of 64: what is in them; how they come to be one list; joined, made less, told. -/
namespace Go.Proofs.Ytjggjhgbobmkhaa
set_option linter.unusedVariables false
set_option linter.unusedSimpArgs false
structure Blk where
  a : Int
  w : Nat
deriving Inhabited, DecidableEq
/-- Is a number in it? -/
def memB (bs : List Blk) (n : Nat) : Bool := bs.any fun b => decide (b.a = ((n / 64 : Nat) : Int)) && b.w.testBit (n % 64)
structure WFB (bs : List Blk) : Prop where
  up : ∀ i j, i < j → j < bs.length → bs[i]!.a < bs[j]!.a
  rng : ∀ b ∈ bs, 0 ≤ b.a ∧ b.a < 144115188075855872 ∧ 0 < b.w ∧ b.w < 18446744073709551616
theorem WFB.nil : WFB [] := ⟨fun i j _ h => by simp at h, by simp⟩
theorem mem_getB {bs : List Blk} {i : Nat} (h : i < bs.length) : bs[i]! ∈ bs := by rw [getElem!_pos bs i h]; exact List.getElem_mem h
theorem get_of_mem {bs : List Blk} {b : Blk} (h : b ∈ bs) : ∃ i, i < bs.length ∧ bs[i]! = b := by
  obtain ⟨i, hi, e⟩ := List.getElem_of_mem h
  exact ⟨i, hi, by rw [getElem!_pos bs i hi]; exact e⟩
theorem memB_iff {bs : List Blk} {n : Nat} : memB bs n = true ↔ ∃ b ∈ bs, b.a = ((n / 64 : Nat) : Int) ∧ b.w.testBit (n % 64) = true := by
  simp [memB, List.any_eq_true]
theorem memB_nil (n : Nat) : memB [] n = false := rfl
theorem memB_app (xs ys : List Blk) (n : Nat) : memB (xs ++ ys) n = (memB xs n || memB ys n) := by simp [memB]
theorem memB_one (b : Blk) (n : Nat) : memB [b] n = (decide (b.a = ((n / 64 : Nat) : Int)) && b.w.testBit (n % 64)) := by simp [memB]
theorem WFB.inj {bs : List Blk} (h : WFB bs) {i j : Nat} (hi : i < bs.length) (hj : j < bs.length) (e : bs[i]!.a = bs[j]!.a) : i = j := by
  rcases Nat.lt_trichotomy i j with h1 | h1 | h1
  · have := h.up i j h1 hj; omega
  · exact h1
  · have := h.up j i h1 hi; omega
/-- The block at a place tells of its numbers. -/
theorem WFB.at_ {bs : List Blk} (h : WFB bs) {i n : Nat} (hi : i < bs.length) (e : bs[i]!.a = ((n / 64 : Nat) : Int)) : memB bs n = bs[i]!.w.testBit (n % 64) := by
  rw [Bool.eq_iff_iff, memB_iff]
  refine ⟨fun ⟨b, hb, e2, hw⟩ => ?_, fun hw => ⟨_, mem_getB hi, e, hw⟩⟩
  obtain ⟨j, hj, rfl⟩ := get_of_mem hb
  rw [h.inj hi hj (e.trans e2.symm)]
  exact hw
theorem memB_none {bs : List Blk} {n : Nat} (h : ∀ i, i < bs.length → bs[i]!.a ≠ ((n / 64 : Nat) : Int)) : memB bs n = false := by
  rw [Bool.eq_false_iff]
  intro hm
  obtain ⟨b, hb, e, _⟩ := memB_iff.1 hm
  obtain ⟨i, hi, rfl⟩ := get_of_mem hb
  exact h i hi e
theorem bit_some {w : Nat} (h0 : 0 < w) (h1 : w < 18446744073709551616) : ∃ i, i < 64 ∧ w.testBit i = true := by
  obtain ⟨i, hi⟩ := Nat.exists_testBit_of_ne_zero (by omega : w ≠ 0)
  refine ⟨i, ?_, hi⟩
  rcases Nat.lt_or_ge i 64 with h | h
  · exact h
  · have : w < 2 ^ i := Nat.lt_of_lt_of_le h1 (Nat.pow_le_pow_right (n := 2) (by omega) h)
    rw [Nat.testBit_lt_two_pow this] at hi
    cases hi
theorem bit_hi {w : Nat} (h1 : w < 18446744073709551616) {i : Nat} (h : 64 ≤ i) : w.testBit i = false :=
  Nat.testBit_lt_two_pow (Nat.lt_of_lt_of_le h1 (Nat.pow_le_pow_right (n := 2) (by omega) h))
/-- Lists of one order that have the same blocks are one. -/
theorem sorted_eq : ∀ {xs ys : List Blk}, (∀ i j, i < j → j < xs.length → xs[i]!.a < xs[j]!.a) → (∀ i j, i < j → j < ys.length → ys[i]!.a < ys[j]!.a) → (∀ b, b ∈ xs ↔ b ∈ ys) → xs = ys
  | [], [], _, _, _ => rfl
  | [], y :: ys, _, _, h => by have := (h y).2 (by simp); cases this
  | x :: xs, [], _, _, h => by have := (h x).1 (by simp); cases this
  | x :: xs, y :: ys, h1, h2, h => by
    have tail : ∀ {z : Blk} {zs : List Blk}, (∀ i j, i < j → j < (z :: zs).length → (z :: zs)[i]!.a < (z :: zs)[j]!.a) → ∀ b ∈ zs, z.a < b.a := fun {z zs} hz b hb => by
      obtain ⟨j, hj, rfl⟩ := get_of_mem hb
      have := hz 0 (j + 1) (by omega) (by simpa using hj)
      simpa using this
    have e : x = y := by
      have m1 := (h x).1 (by simp)
      have m2 := (h y).2 (by simp)
      rcases List.mem_cons.1 m1 with e | m1
      · exact e
      · rcases List.mem_cons.1 m2 with e | m2
        · exact e.symm
        · have := tail h2 x m1; have := tail h1 y m2; omega
    subst e
    have e2 : xs = ys := by
      refine sorted_eq (fun i j hij hj => by simpa using h1 (i + 1) (j + 1) (by omega) (by simpa using hj)) (fun i j hij hj => by simpa using h2 (i + 1) (j + 1) (by omega) (by simpa using hj)) fun b => ⟨fun hb => ?_, fun hb => ?_⟩
      · rcases List.mem_cons.1 ((h b).1 (by simp [hb])) with e | m
        · subst e; have := tail h1 b hb; omega
        · exact m
      · rcases List.mem_cons.1 ((h b).2 (by simp [hb])) with e | m
        · subst e; have := tail h2 b hb; omega
        · exact m
    rw [e2]
theorem num_div (a : Int) (h : 0 ≤ a) (i : Nat) (hi : i < 64) : (((64 * a.toNat + i) / 64 : Nat) : Int) = a ∧ (64 * a.toNat + i) % 64 = i := by omega
/-- Sets with the same numbers are one list. -/
theorem canonB {xs ys : List Blk} (hx : WFB xs) (hy : WFB ys) (h : ∀ n, memB xs n = memB ys n) : xs = ys := by
  have half : ∀ {xs ys : List Blk}, WFB xs → WFB ys → (∀ n, memB xs n = memB ys n) → ∀ b ∈ xs, b ∈ ys := fun {xs ys} hx hy h b hb => by
    have hr := hx.rng b hb
    obtain ⟨i, hi, hw⟩ := bit_some hr.2.2.1 hr.2.2.2
    have hn := num_div b.a hr.1 i hi
    have hm : memB xs (64 * b.a.toNat + i) = true := memB_iff.2 ⟨b, hb, hn.1.symm, by rw [hn.2]; exact hw⟩
    rw [h] at hm
    obtain ⟨c, hc, e, _⟩ := memB_iff.1 hm
    rw [hn.1] at e
    have : b.w = c.w := by
      refine Nat.eq_of_testBit_eq fun k => ?_
      rcases Nat.lt_or_ge k 64 with hk | hk
      · have hn := num_div b.a hr.1 k hk
        obtain ⟨p, hp, ep⟩ := get_of_mem hb
        obtain ⟨q, hq, eq⟩ := get_of_mem hc
        have h1 := hx.at_ hp (n := 64 * b.a.toNat + k) (by rw [ep]; exact hn.1.symm)
        have h2 := hy.at_ hq (n := 64 * b.a.toNat + k) (by rw [eq, e]; exact hn.1.symm)
        rw [ep, hn.2] at h1
        rw [eq, hn.2] at h2
        rw [← h1, ← h2, h]
      · rw [bit_hi hr.2.2.2 hk, bit_hi (hy.rng c hc).2.2.2 hk]
    have : b = c := by cases b; cases c; simp_all
    rw [this]
    exact hc
  exact sorted_eq hx.up hy.up fun b => ⟨half hx hy h b, half hy hx (fun n => (h n).symm) b⟩
theorem snoc_get (xs : List Blk) (x : Blk) {j : Nat} (h : j < xs.length + 1) : (xs ++ [x])[j]! = if j < xs.length then xs[j]! else x := by
  rw [getElem!_pos (xs ++ [x]) j (by simpa using h), List.getElem_append]
  split
  · rename_i h1; rw [getElem!_pos xs j h1]
  · simp
/-- One more, behind all. -/
theorem WFB.snoc {xs : List Blk} {x : Blk} (h : WFB xs) (hx : ∀ i, i < xs.length → xs[i]!.a < x.a) (hr : 0 ≤ x.a ∧ x.a < 144115188075855872 ∧ 0 < x.w ∧ x.w < 18446744073709551616) : WFB (xs ++ [x]) := by
  refine ⟨fun i j hij hj => ?_, fun b hb => ?_⟩
  · have hj' : j < xs.length + 1 := by simpa using hj
    rw [snoc_get _ _ (by omega), snoc_get _ _ hj', if_pos (by omega)]
    split
    · exact h.up i j hij (by assumption)
    · exact hx i (by omega)
  · rcases List.mem_append.1 hb with hb | hb
    · exact h.rng b hb
    · rw [List.mem_singleton.1 hb]; exact hr
/-! ### One more number -/
theorem testBit_pow (k j : Nat) : (2 ^ k).testBit j = decide (k = j) := by rw [Nat.testBit_two_pow]
/-- Its block is there. -/
theorem add_there {bs : List Blk} (h : WFB bs) {i n : Nat} (hi : i < bs.length) (e : bs[i]!.a = ((n / 64 : Nat) : Int)) :
    WFB (bs.set i ⟨bs[i]!.a, bs[i]!.w ||| 2 ^ (n % 64)⟩) ∧ ∀ m, memB (bs.set i ⟨bs[i]!.a, bs[i]!.w ||| 2 ^ (n % 64)⟩) m = (memB bs m || decide (m = n)) := by
  have gs : ∀ j, j < bs.length → (bs.set i ⟨bs[i]!.a, bs[i]!.w ||| 2 ^ (n % 64)⟩)[j]! = if i = j then ⟨bs[i]!.a, bs[i]!.w ||| 2 ^ (n % 64)⟩ else bs[j]! := fun j hj => by
    rw [getElem!_pos _ j (by simpa using hj), List.getElem_set]
    split
    · rfl
    · rw [getElem!_pos bs j hj]
  have ga : ∀ j, j < bs.length → (bs.set i ⟨bs[i]!.a, bs[i]!.w ||| 2 ^ (n % 64)⟩)[j]!.a = bs[j]!.a := fun j hj => by
    rw [gs j hj]
    split
    · rename_i e; rw [e]
    · rfl
  have hw : WFB (bs.set i ⟨bs[i]!.a, bs[i]!.w ||| 2 ^ (n % 64)⟩) := by
    refine ⟨fun j k hjk hk => ?_, fun b hb => ?_⟩
    · have hk' : k < bs.length := by simpa using hk
      rw [ga j (by omega), ga k hk']
      exact h.up j k hjk hk'
    · obtain ⟨j, hj, rfl⟩ := get_of_mem hb
      have hj' : j < bs.length := by simpa using hj
      rw [gs j hj']
      split
      · have hr := h.rng _ (mem_getB hi)
        have h1 : bs[i]!.w ||| 2 ^ (n % 64) < 2 ^ 64 := Nat.or_lt_two_pow hr.2.2.2 (Nat.pow_lt_pow_right (by omega) (Nat.mod_lt _ (by omega)))
        have h2 : bs[i]!.w ≤ bs[i]!.w ||| 2 ^ (n % 64) := Nat.left_le_or
        exact ⟨hr.1, hr.2.1, by show 0 < bs[i]!.w ||| _; omega, h1⟩
      · exact h.rng _ (mem_getB hj')
  refine ⟨hw, fun m => ?_⟩
  by_cases hm : ((m / 64 : Nat) : Int) = ((n / 64 : Nat) : Int)
  · have hl : i < (bs.set i ⟨bs[i]!.a, bs[i]!.w ||| 2 ^ (n % 64)⟩).length := by simpa using hi
    rw [hw.at_ hl (n := m) (by rw [ga i hi, e, hm]), h.at_ hi (n := m) (by rw [e, hm]), gs i hi, if_pos rfl]
    show (bs[i]!.w ||| 2 ^ (n % 64)).testBit (m % 64) = _
    rw [Nat.testBit_or, testBit_pow]
    congr 1
    rw [decide_eq_decide]
    omega
  · have hd : decide (m = n) = false := by rw [decide_eq_false_iff_not]; intro e2; exact hm (by rw [e2])
    rw [hd, Bool.or_false, Bool.eq_iff_iff, memB_iff, memB_iff]
    constructor
    · rintro ⟨b, hb, e1, e2⟩
      obtain ⟨j, hj, rfl⟩ := get_of_mem hb
      have hj' : j < bs.length := by simpa using hj
      have hne : i ≠ j := fun q => by subst q; rw [ga i hi] at e1; exact hm (e1.symm.trans e)
      rw [gs j hj', if_neg hne] at e1 e2
      exact ⟨_, mem_getB hj', e1, e2⟩
    · rintro ⟨b, hb, e1, e2⟩
      obtain ⟨j, hj, rfl⟩ := get_of_mem hb
      have hne : i ≠ j := fun q => by subst q; exact hm (e1.symm.trans e)
      have := gs j hj
      rw [if_neg hne] at this
      exact ⟨_, by rw [← this]; exact mem_getB (by simpa using hj), e1, e2⟩
theorem insB_get (bs : List Blk) (i : Nat) (x : Blk) (hi : i ≤ bs.length) {j : Nat} (hj : j < bs.length + 1) : (bs.take i ++ x :: bs.drop i)[j]! = if j < i then bs[j]! else if j = i then x else bs[j - 1]! := by
  have hl : (bs.take i ++ x :: bs.drop i).length = bs.length + 1 := by simp; omega
  rw [getElem!_pos _ j (by rw [hl]; exact hj), List.getElem_append]
  by_cases h : j < i
  · rw [dif_pos (by simp; omega), if_pos h, getElem!_pos bs j (by omega)]
    simp
  · rw [dif_neg (by simp; omega), if_neg h]
    by_cases e : j = i
    · subst e
      simp [Nat.min_eq_left hi]
    · rw [if_neg e, getElem!_pos bs (j - 1) (by omega)]
      have : j - (bs.take i).length = (j - i - 1) + 1 := by simp; omega
      simp only [this, List.getElem_cons_succ, List.getElem_drop]
      congr 1
      omega
/-- It isn't there. -/
theorem add_new {bs : List Blk} (h : WFB bs) {i n : Nat} (hi : i ≤ bs.length) (hlo : ∀ j, j < i → bs[j]!.a < ((n / 64 : Nat) : Int)) (hhi : ∀ j, i ≤ j → j < bs.length → ((n / 64 : Nat) : Int) < bs[j]!.a) (hn : n < 9223372036854775808) :
    WFB (bs.take i ++ ⟨((n / 64 : Nat) : Int), 2 ^ (n % 64)⟩ :: bs.drop i) ∧ (∀ m, memB (bs.take i ++ ⟨((n / 64 : Nat) : Int), 2 ^ (n % 64)⟩ :: bs.drop i) m = (memB bs m || decide (m = n))) ∧ memB bs n = false := by
  have g := @insB_get bs i ⟨((n / 64 : Nat) : Int), 2 ^ (n % 64)⟩ hi
  have hl : (bs.take i ++ ⟨((n / 64 : Nat) : Int), 2 ^ (n % 64)⟩ :: bs.drop i).length = bs.length + 1 := by simp; omega
  refine ⟨⟨fun j k hjk hk => ?_, fun b hb => ?_⟩, fun m => ?_, memB_none fun j hj e => ?_⟩
  · rw [hl] at hk
    rw [@g j (by omega), @g k hk]
    by_cases h1 : k < i
    · rw [if_pos h1, if_pos (by omega)]
      exact h.up j k hjk (by omega)
    · rw [if_neg h1]
      by_cases h2 : k = i
      · rw [if_pos h2, if_pos (by omega)]
        exact hlo j (by omega)
      · rw [if_neg h2]
        by_cases h3 : j < i
        · rw [if_pos h3]
          exact h.up j (k - 1) (by omega) (by omega)
        · rw [if_neg h3]
          by_cases h4 : j = i
          · rw [if_pos h4]
            exact hhi (k - 1) (by omega) (by omega)
          · rw [if_neg h4]
            exact h.up (j - 1) (k - 1) (by omega) (by omega)
  · rcases List.mem_append.1 hb with hb | hb
    · exact h.rng b (List.mem_of_mem_take hb)
    · rcases List.mem_cons.1 hb with rfl | hb
      · have h2 : 2 ^ (n % 64) < 2 ^ 64 := Nat.pow_lt_pow_right (by omega) (Nat.mod_lt _ (by omega))
        exact ⟨by show (0 : Int) ≤ ((n / 64 : Nat) : Int); omega, by show ((n / 64 : Nat) : Int) < _; omega, Nat.two_pow_pos _, h2⟩
      · exact h.rng b (List.mem_of_mem_drop hb)
  · have e : memB bs m = (memB (bs.take i) m || memB (bs.drop i) m) := by rw [← memB_app, List.take_append_drop]
    have e2 : (⟨((n / 64 : Nat) : Int), 2 ^ (n % 64)⟩ : Blk) :: bs.drop i = [⟨((n / 64 : Nat) : Int), 2 ^ (n % 64)⟩] ++ bs.drop i := rfl
    rw [e2, memB_app, memB_app, memB_one, e]
    have e3 : (decide (((n / 64 : Nat) : Int) = ((m / 64 : Nat) : Int)) && (2 ^ (n % 64)).testBit (m % 64)) = decide (m = n) := by
      rw [testBit_pow, ← Bool.decide_and, decide_eq_decide]
      omega
    rw [e3]
    cases memB (bs.take i) m <;> cases memB (bs.drop i) m <;> simp
  · rcases Nat.lt_or_ge j i with h1 | h1
    · have := hlo j h1; omega
    · have := hhi j h1 hj; omega
end Go.Proofs.Ytjggjhgbobmkhaa

/- Plain: the bits of a word, in order; a set's numbers, in order; sets joined; what another one hasn't. -/
namespace Go.Proofs.Ytjggjhgbobmkhaa
set_option linter.unusedVariables false
set_option linter.unusedSimpArgs false
/-! ### A word's bits -/
def bitsOf (w : Nat) : List Nat := (List.range 64).filter fun i => w.testBit i
theorem mem_bitsOf {w i : Nat} : i ∈ bitsOf w ↔ i < 64 ∧ w.testBit i = true := by simp [bitsOf]
/-! ### A set's numbers -/
def numsOf (b : Blk) : List Int := (bitsOf b.w).map fun (i : Nat) => 64 * b.a + (i : Int)
def numsB (bs : List Blk) : List Int := bs.flatMap numsOf
theorem numsB_snoc (xs : List Blk) (x : Blk) : numsB (xs ++ [x]) = numsB xs ++ numsOf x := by simp [numsB]
theorem mem_numsB {bs : List Blk} (h : WFB bs) {x : Int} : x ∈ numsB bs ↔ 0 ≤ x ∧ memB bs x.toNat = true := by
  unfold numsB
  rw [List.mem_flatMap, memB_iff]
  constructor
  · rintro ⟨b, hb, hx⟩
    obtain ⟨i, hi, rfl⟩ := List.mem_map.1 hx
    have hi := mem_bitsOf.1 hi
    have hr := h.rng b hb
    have e : (64 * b.a + (i : Int)).toNat = 64 * b.a.toNat + i := by omega
    have hn := num_div b.a hr.1 i hi.1
    refine ⟨by omega, b, hb, ?_, ?_⟩
    · rw [e]; exact hn.1.symm
    · rw [e, hn.2]; exact hi.2
  · rintro ⟨h0, b, hb, e1, e2⟩
    refine ⟨b, hb, List.mem_map.2 ⟨x.toNat % 64, mem_bitsOf.2 ⟨Nat.mod_lt _ (by omega), e2⟩, by omega⟩⟩
theorem bitsOf_len (w : Nat) : (bitsOf w).length ≤ 64 := by
  have := List.length_filter_le (fun i => w.testBit i) (List.range 64)
  simpa [bitsOf] using this
theorem numsB_len : ∀ bs : List Blk, (numsB bs).length ≤ 64 * bs.length
  | [] => by simp [numsB]
  | b :: bs => by
    have h1 := numsB_len bs
    have h2 := bitsOf_len b.w
    have e : (numsB (b :: bs)).length = (bitsOf b.w).length + (numsB bs).length := by simp [numsB, numsOf]
    simp only [List.length_cons]
    omega
/-! ### Joined -/
structure JInv (s t : List Blk) (i k : Nat) (out : List Blk) (more : Bool) : Prop where
  wf : WFB out
  hi : i ≤ s.length
  hk : k ≤ t.length
  mem : ∀ n, memB out n = (memB (s.take i) n || memB (t.take k) n)
  lo : ∀ j, j < out.length → (∀ p, i ≤ p → p < s.length → out[j]!.a < s[p]!.a) ∧ (∀ p, k ≤ p → p < t.length → out[j]!.a < t[p]!.a)
  len : out.length ≤ i + k
  more_ : more = !decide (out = s.take i)
  st : ∀ j, j < i → ∀ p, k ≤ p → p < t.length → s[j]!.a < t[p]!.a
theorem JInv.start (s t : List Blk) : JInv s t 0 0 [] false := ⟨WFB.nil, Nat.zero_le _, Nat.zero_le _, fun n => rfl, fun j h => by simp at h, by simp, by simp, fun j h => by omega⟩
theorem take_nextB {bs : List Blk} {i : Nat} (h : i < bs.length) : bs.take (i + 1) = bs.take i ++ [bs[i]!] := by
  rw [getElem!_pos bs i h]; simp
theorem app_one_eq {xs ys : List Blk} {x y : Blk} : xs ++ [x] = ys ++ [y] ↔ xs = ys ∧ x = y := by
  constructor
  · intro h
    have := List.append_inj' h rfl
    exact ⟨this.1, by simpa using this.2⟩
  · rintro ⟨rfl, rfl⟩; rfl
section
variable {s t out : List Blk} {i k : Nat} {more : Bool}
theorem JInv.left (hs : WFB s) (ht : WFB t) (h : JInv s t i k out more) (hi : i < s.length) (hk : k = t.length ∨ k < t.length ∧ s[i]!.a < t[k]!.a) : JInv s t (i + 1) k (out ++ [s[i]!]) more := by
  have hlt : ∀ p, k ≤ p → p < t.length → s[i]!.a < t[p]!.a := fun p h1 h2 => by
    rcases hk with e | ⟨h3, h4⟩
    · omega
    · rcases Nat.lt_or_ge k p with h5 | h5
      · have := ht.up k p h5 h2; omega
      · have : p = k := by omega
        subst this; exact h4
  refine ⟨h.wf.snoc (fun j hj => (h.lo j hj).1 i (Nat.le_refl _) hi) (hs.rng _ (mem_getB hi)), hi, h.hk, fun n => ?_, fun j hj => ?_, by have := h.len; simp; omega, ?_, fun j hj => ?_⟩
  · rw [memB_app, h.mem, take_nextB hi, memB_app]
    cases memB (s.take i) n <;> cases memB (t.take k) n <;> simp
  · have hj' : j < out.length + 1 := by simpa using hj
    rw [snoc_get _ _ hj']
    split
    · exact ⟨fun p h1 h2 => (h.lo j (by assumption)).1 p (by omega) h2, (h.lo j (by assumption)).2⟩
    · exact ⟨fun p h1 h2 => hs.up i p (by omega) h2, hlt⟩
  · rw [h.more_, take_nextB hi]
    congr 1
    rw [decide_eq_decide, app_one_eq]
    simp
  · rcases Nat.lt_or_ge j i with h1 | h1
    · exact h.st j h1
    · have : j = i := by omega
      subst this; exact hlt
theorem JInv.right (hs : WFB s) (ht : WFB t) (h : JInv s t i k out more) (hk : k < t.length) (hi : i = s.length ∨ i < s.length ∧ t[k]!.a < s[i]!.a) : JInv s t i (k + 1) (out ++ [t[k]!]) true := by
  have hlt : ∀ p, i ≤ p → p < s.length → t[k]!.a < s[p]!.a := fun p h1 h2 => by
    rcases hi with e | ⟨h3, h4⟩
    · omega
    · rcases Nat.lt_or_ge i p with h5 | h5
      · have := hs.up i p h5 h2; omega
      · have : p = i := by omega
        subst this; exact h4
  refine ⟨h.wf.snoc (fun j hj => (h.lo j hj).2 k (Nat.le_refl _) hk) (ht.rng _ (mem_getB hk)), h.hi, hk, fun n => ?_, fun j hj => ?_, by have := h.len; simp; omega, ?_, fun j hj p h1 h2 => h.st j hj p (by omega) h2⟩
  · rw [memB_app, h.mem, take_nextB hk, memB_app]
    cases memB (s.take i) n <;> cases memB (t.take k) n <;> simp
  · have hj' : j < out.length + 1 := by simpa using hj
    rw [snoc_get _ _ hj']
    split
    · exact ⟨(h.lo j (by assumption)).1, fun p h1 h2 => (h.lo j (by assumption)).2 p (by omega) h2⟩
    · exact ⟨hlt, fun p h1 h2 => ht.up k p (by omega) h2⟩
  · have hne : out ++ [t[k]!] ≠ s.take i := by
      intro e
      have hm : t[k]! ∈ s.take i := by rw [← e]; simp
      obtain ⟨j, hj, ej⟩ := List.getElem_of_mem hm
      have hj' : j < i := by simp at hj; omega
      have := h.st j hj' k (Nat.le_refl _) hk
      rw [List.getElem_take] at ej
      rw [getElem!_pos s j (by have := h.hi; omega), ej] at this
      omega
    rw [decide_eq_false hne]; rfl
theorem JInv.both (hs : WFB s) (ht : WFB t) (h : JInv s t i k out more) (hi : i < s.length) (hk : k < t.length) (e : s[i]!.a = t[k]!.a) :
    JInv s t (i + 1) (k + 1) (out ++ [⟨s[i]!.a, s[i]!.w ||| t[k]!.w⟩]) (more || decide (s[i]!.w ||| t[k]!.w ≠ s[i]!.w)) := by
  have hr := hs.rng _ (mem_getB hi)
  have hr2 := ht.rng _ (mem_getB hk)
  have h1 : s[i]!.w ||| t[k]!.w < 2 ^ 64 := Nat.or_lt_two_pow hr.2.2.2 hr2.2.2.2
  have h2 : s[i]!.w ≤ s[i]!.w ||| t[k]!.w := Nat.left_le_or
  refine ⟨h.wf.snoc (fun j hj => (h.lo j hj).1 i (Nat.le_refl _) hi) ⟨hr.1, hr.2.1, by show 0 < s[i]!.w ||| _; omega, h1⟩, hi, hk, fun n => ?_, fun j hj => ?_, by have := h.len; simp; omega, ?_, fun j hj p hp1 hp2 => ?_⟩
  · rw [memB_app, h.mem, take_nextB hi, take_nextB hk, memB_app, memB_app, memB_one, memB_one, memB_one]
    show (_ || (decide (s[i]!.a = _) && (s[i]!.w ||| t[k]!.w).testBit _)) = _
    rw [← e, Nat.testBit_or]
    cases memB (s.take i) n <;> cases memB (t.take k) n <;> cases decide (s[i]!.a = ((n / 64 : Nat) : Int)) <;> simp
  · have hj' : j < out.length + 1 := by simpa using hj
    rw [snoc_get _ _ hj']
    split
    · exact ⟨fun p h1 h2 => (h.lo j (by assumption)).1 p (by omega) h2, fun p h1 h2 => (h.lo j (by assumption)).2 p (by omega) h2⟩
    · exact ⟨fun p h1 h2 => hs.up i p (by omega) h2, fun p h1 h2 => by show s[i]!.a < _; rw [e]; exact ht.up k p (by omega) h2⟩
  · rw [h.more_, take_nextB hi]
    have : decide (out ++ [(⟨s[i]!.a, s[i]!.w ||| t[k]!.w⟩ : Blk)] = s.take i ++ [s[i]!]) = (decide (out = s.take i) && decide (s[i]!.w ||| t[k]!.w = s[i]!.w)) := by
      rw [← Bool.decide_and, decide_eq_decide, app_one_eq]
      refine and_congr Iff.rfl ⟨fun q => congrArg Blk.w q, fun q => ?_⟩
      rw [q]
    rw [this]
    cases decide (out = s.take i) <;> simp
  · rcases Nat.lt_or_ge j i with h1 | h1
    · exact h.st j h1 p (by omega) hp2
    · have : j = i := by omega
      subst this
      rw [e]
      exact ht.up k p (by omega) hp2
theorem JInv.done (h : JInv s t s.length t.length out more) : WFB out ∧ (∀ n, memB out n = (memB s n || memB t n)) ∧ more = !decide (out = s) ∧ out.length ≤ s.length + t.length := by
  refine ⟨h.wf, fun n => ?_, ?_, h.len⟩
  · rw [h.mem, List.take_length, List.take_length]
  · rw [h.more_, List.take_length]
end
/-! ### What another one hasn't -/
structure LInv (s t : List Blk) (i : Nat) (out : List Blk) : Prop where
  wf : WFB out
  mem : ∀ n, memB out n = (memB (s.take i) n && !memB t n)
  lo : ∀ j, j < out.length → ∀ p, i ≤ p → p < s.length → out[j]!.a < s[p]!.a
  len : out.length ≤ i
theorem LInv.start (s t : List Blk) : LInv s t 0 [] := ⟨WFB.nil, fun n => by simp [memB_nil], fun j h => by simp at h, by simp⟩
/-- v: what is left of the block. -/
theorem LInv.step {s t out : List Blk} {i v : Nat} (hs : WFB s) (h : LInv s t i out) (hi : i < s.length) (hv : v < 18446744073709551616)
    (hb : ∀ n, s[i]!.a = ((n / 64 : Nat) : Int) → v.testBit (n % 64) = (s[i]!.w.testBit (n % 64) && !memB t n)) : LInv s t (i + 1) (if v = 0 then out else out ++ [⟨s[i]!.a, v⟩]) := by
  have hr := hs.rng _ (mem_getB hi)
  have key : ∀ n, memB [(⟨s[i]!.a, v⟩ : Blk)] n = (memB [s[i]!] n && !memB t n) := fun n => by
    rw [memB_one, memB_one]
    by_cases e : s[i]!.a = ((n / 64 : Nat) : Int)
    · rw [hb n e]
      cases s[i]!.w.testBit (n % 64) <;> simp [e]
    · rw [decide_eq_false e]; rfl
  have hm : ∀ n, (memB out n || memB [(⟨s[i]!.a, v⟩ : Blk)] n) = (memB (s.take (i + 1)) n && !memB t n) := fun n => by
    rw [h.mem, key, take_nextB hi, memB_app]
    cases memB (s.take i) n <;> cases memB t n <;> simp
  by_cases h0 : v = 0
  · rw [if_pos h0]
    subst h0
    refine ⟨h.wf, fun n => ?_, fun j hj p h1 h2 => h.lo j hj p (by omega) h2, by have := h.len; omega⟩
    rw [← hm, memB_one]
    simp
  · rw [if_neg h0]
    refine ⟨h.wf.snoc (fun j hj => h.lo j hj i (Nat.le_refl _) hi) ⟨hr.1, hr.2.1, by show 0 < v; omega, hv⟩, fun n => ?_, fun j hj p h1 h2 => ?_, by have := h.len; simp; omega⟩
    · rw [memB_app]; exact hm n
    · have hj' : j < out.length + 1 := by simpa using hj
      rw [snoc_get _ _ hj']
      split
      · exact h.lo j (by assumption) p (by omega) h2
      · exact hs.up i p (by omega) h2
theorem LInv.done {s t out : List Blk} (h : LInv s t s.length out) : WFB out ∧ (∀ n, memB out n = (memB s n && !memB t n)) ∧ out.length ≤ s.length := by
  refine ⟨h.wf, fun n => ?_, h.len⟩
  rw [h.mem, List.take_length]
end Go.Proofs.Ytjggjhgbobmkhaa
