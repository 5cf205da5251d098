/- Regions that draw their order: heads that read alone, one that makes a block, and a tail that waits for all of them. -/
import Derived.Test.YtkjbkalakafnlaaDoorE2
import Derived.StillTail
import Derived.Deep.Quiet
namespace Go.Proofs.YtkjbkalakafnlaaDoor
open Go.RowKit
set_option linter.unusedVariables false
set_option linter.unusedSimpArgs false
/-- One value, in whatever world above w0; what is called leaves all that was there. -/
def Stable (Φ : World → Prop) : Prop := ∀ w w', Φ w → Below w.heap.size w w' → Φ w'
def quB (P : Program) (o : Oper) (a : Act) (C : World → Prop) (v : Value) : Prop := ∀ w, C w → o.quietAt P a (fun w' => Below w.heap.size w w') w v
def wpQB (P : Program) (ops : Array Oper) (C : World → Prop) (Q : Act → Prop) : List Oper → Act → Prop
  | [], a => Q a
  | o :: rest, a => if Region.wanted o (yielded ops a.tmps) then ∃ v, quB P o a C v ∧ wpQB P ops C Q rest (a.put o.dst v) else wpQB P ops C Q rest (a.put o.dst undef)
theorem quB_quiet {P : Program} {o : Oper} {a : Act} {C : World → Prop} (hC : Stable C) {v : Value} (h : quB P o a C v) (w : World) (hw : C w) : o.quietAt P a C w v := by
  have h1 := h w hw
  unfold Oper.quietAt at *
  generalize (execOp a.eval o).run P w = r at *
  cases r with
  | ok n w' =>
    cases n <;> simp only [Oper.quietUpon] at h1 ⊢ <;> first | exact h1 | exact ⟨h1.1, h1.2.mono fun e w'' ⟨h2, h3⟩ => ⟨h2, hC _ _ hw h3⟩⟩
  | halt x w' => exact h1
theorem wpQB_quiet {P : Program} {ops : Array Oper} {C : World → Prop} (hC : Stable C) {Q : Act → Prop} : ∀ {rest : List Oper} {a : Act}, wpQB P ops C Q rest a → wpQuiet P ops C Q rest a
  | [], a, h => h
  | o :: rest, a, h => by
    unfold wpQB at h
    unfold wpQuiet
    split
    · rename_i hw
      rw [if_pos hw] at h
      obtain ⟨v, h1, h2⟩ := h
      exact ⟨v, fun w hw => quB_quiet hC h1 w hw, wpQB_quiet hC h2⟩
    · rename_i hw
      rw [if_neg hw] at h
      exact wpQB_quiet hC h
theorem wpQB_mono {P : Program} {ops : Array Oper} {C : World → Prop} {K K' : Act → Prop} (hk : ∀ a, K a → K' a) : ∀ {rest : List Oper} {a : Act}, wpQB P ops C K rest a → wpQB P ops C K' rest a
  | [], a, h => hk _ h
  | o :: rest, a, h => by
    unfold wpQB at h ⊢
    split
    · rename_i hw
      rw [if_pos hw] at h
      obtain ⟨v, h1, h2⟩ := h
      exact ⟨v, h1, wpQB_mono hk h2⟩
    · rename_i hw
      rw [if_neg hw] at h
      exact wpQB_mono hk h

section
variable {P : Program} {ops : Array Oper} {md : Region.Mode} {C : World → Prop}
def hUp (P : Program) (C : World → Prop) (o : Oper) (a : Act) (Φ : World → Prop) (K : (World → Prop) → Act → Prop) : Prop :=
  (∃ v, quB P o a C v ∧ K Φ (a.put o.dst v)) ∨
  (∃ Ψ : Value → World → Prop, (∀ v, Stable (Ψ v)) ∧ (∀ w, C w → Φ w → ∃ v w', (execOp a.eval o).run P w = .ok (.value v) w' ∧ C w' ∧ Ψ v w') ∧ ∀ v, K (Ψ v) (a.put o.dst v))
def hOp (P : Program) (ops : Array Oper) (C : World → Prop) (i : Nat) (Φ : World → Prop) (K : (World → Prop) → Act → Prop) (a : Act) : Prop :=
  match ops[i]? with
  | none => K Φ a
  | some o => if Region.wanted o (yielded ops a.tmps) then hUp P C o a Φ K else K Φ (a.put o.dst undef)
def wpH (P : Program) (md : Region.Mode) (ops : Array Oper) (C : World → Prop) (n : Nat) (L : Array Bool → (World → Prop) → Act → Prop) : Nat → Array Bool → (World → Prop) → Act → Prop
  | 0, listed, Φ, a => L listed Φ a
  | f + 1, listed, Φ, a => Region.ready md ops listed ≠ [] ∧ ∀ i ∈ Region.ready md ops listed, i < n ∧ hOp P ops C i Φ (fun Φ' a' => wpH P md ops C n L f (listed.setIfInBounds i true) Φ' a') a
theorem hUp_mono {o : Oper} {a : Act} {Φ : World → Prop} {K K' : (World → Prop) → Act → Prop} (h : ∀ Φ a, K Φ a → K' Φ a) (hh : hUp P C o a Φ K) : hUp P C o a Φ K' := by
  rcases hh with ⟨v, h1, h2⟩ | ⟨Ψ, h1, h2, h3⟩
  · exact .inl ⟨v, h1, h _ _ h2⟩
  · exact .inr ⟨Ψ, h1, h2, fun v => h _ _ (h3 v)⟩
theorem hOp_mono {i : Nat} {a : Act} {Φ : World → Prop} {K K' : (World → Prop) → Act → Prop} (h : ∀ Φ a, K Φ a → K' Φ a) (hh : hOp P ops C i Φ K a) : hOp P ops C i Φ K' a := by
  unfold hOp at *
  split
  · rename_i ho; simp only [ho] at hh; exact h _ _ hh
  · rename_i o ho
    simp only [ho] at hh
    split
    · rename_i hw; simp only [hw, if_true] at hh; exact hUp_mono h hh
    · rename_i hw; simp only [hw] at hh; exact h _ _ hh
theorem wp_of_hUp (hC : Stable C) {o : Oper} {a : Act} {Φ : World → Prop} {K : (World → Prop) → Act → Prop} {K' : Act → World → Prop} {Q' : Exit → Act → World → Prop} {w : World} (hw : C w) (hst : Stable Φ) (hΦ : Φ w)
    (h : ∀ Φ a w', Stable Φ → C w' → Φ w' → K Φ a → K' a w') (hh : hUp P C o a Φ K) : o.wp P a w K' Q' := by
  rcases hh with ⟨v, h1, h2⟩ | ⟨Ψ, h1, h2, h3⟩
  · have h3 := h1 w hw
    unfold Oper.quietAt at h3
    unfold Oper.wp
    generalize (execOp a.eval o).run P w = r at *
    cases r with
    | ok n w' =>
      cases n <;> simp only [Oper.quietUpon] at h3 <;> simp only [Oper.upon]
      case value u =>
        obtain ⟨e1, e2⟩ := h3
        rw [e1, e2]
        exact h _ _ _ hst hw hΦ h2
      case skip =>
        obtain ⟨e1, e2⟩ := h3
        rw [e1, ← e2]
        exact h _ _ _ hst hw hΦ h2
      case enter f args =>
        obtain ⟨e1, hc⟩ := h3
        rw [e1]
        exact hc.mono fun e w'' ⟨he, hw''⟩ => by subst he; exact h _ _ _ hst (hC _ _ hw hw'') (hst _ _ hΦ hw'') h2
    | halt x w' => simp only [Oper.quietUpon] at h3
  · obtain ⟨v, w', h4, h5, h6⟩ := h2 w hw hΦ
    unfold Oper.wp
    rw [h4]
    exact h _ _ _ (h1 v) h5 h6 (h3 v)
theorem wpOp_of_hOp (hC : Stable C) {i : Nat} {a : Act} {Φ : World → Prop} {K : (World → Prop) → Act → Prop} {K' : Act → World → Prop} {Q' : Exit → Act → World → Prop} {w : World} (hw : C w) (hst : Stable Φ) (hΦ : Φ w)
    (h : ∀ Φ a w', Stable Φ → C w' → Φ w' → K Φ a → K' a w') (hh : hOp P ops C i Φ K a) : wpOp P ops Q' i K' a w := by
  unfold hOp at hh
  unfold wpOp
  split
  · rename_i ho; simp only [ho] at hh; exact h _ _ _ hst hw hΦ hh
  · rename_i o ho
    simp only [ho] at hh
    split
    · rename_i hwn; simp only [hwn, if_true] at hh; exact .inl (wp_of_hUp hC hw hst hΦ h hh)
    · rename_i hwn; simp only [hwn] at hh; exact h _ _ _ hst hw hΦ hh
theorem wpAny_of_H (hC : Stable C) {n g : Nat} {L : Array Bool → (World → Prop) → Act → Prop} {Q' : Exit → Act → World → Prop} (hL : ∀ listed Φ a w, C w → Φ w → L listed Φ a → wpAny P md ops Q' g listed a w) :
    ∀ (f : Nat) (listed : Array Bool) (Φ : World → Prop) (a : Act) (w : World), Stable Φ → C w → Φ w → wpH P md ops C n L f listed Φ a → wpAny P md ops Q' (f + g) listed a w
  | 0, listed, Φ, a, w, _, hw, hΦ, h => by rw [Nat.zero_add]; exact hL _ _ _ _ hw hΦ h
  | f + 1, listed, Φ, a, w, hst, hw, hΦ, h => by
    rw [show f + 1 + g = (f + g) + 1 by omega]
    exact ⟨fun h0 => absurd h0 h.1, fun i hi => wpOp_of_hOp hC hw hst hΦ (fun Φ' a' w' hst' hw' hΦ' h' => wpAny_of_H hC hL f _ Φ' a' w' hst' hw' hΦ' h') (h.2 i hi).2⟩
def YieldsB (P : Program) (ops : Array Oper) (C : World → Prop) (o : Oper) (v : Value) (a : Act) : Prop :=
  (Region.wanted o (yielded ops a.tmps) = true ∧ quB P o a C v) ∨ (Region.wanted o (yielded ops a.tmps) = false ∧ v = undef)
theorem YieldsB.hOp {i : Nat} {o : Oper} {v : Value} {a : Act} (hi : ops[i]? = some o) (hy : YieldsB P ops C o v a) {Φ : World → Prop} {K : (World → Prop) → Act → Prop} (h : K Φ (a.put o.dst v)) : hOp P ops C i Φ K a := by
  unfold Proofs.YtkjbkalakafnlaaDoor.hOp
  simp only [hi]
  rcases hy with ⟨hw, hv⟩ | ⟨hw, rfl⟩
  · simp only [hw, if_true]; exact .inl ⟨v, hv, h⟩
  · simp only [hw, Bool.false_eq_true, if_false]; exact h
theorem YieldsB.of_same {o : Oper} {v : Value} {a a' : Act} (hy : YieldsB P ops C o v a) (he : execOp a'.eval o = execOp a.eval o)
    (hw : Region.wanted o (yielded ops a'.tmps) = Region.wanted o (yielded ops a.tmps)) : YieldsB P ops C o v a' := by
  unfold YieldsB quB Oper.quietAt at *
  rw [he, hw]
  exact hy
theorem hOp_put {j : Nat} {oi oj : Oper} {v : Value} (hj : ops[j]? = some oj) (hap : oi.apart ops oj = true)
    (hsi : ∀ cs b, oi.op ≠ .select cs b) (hsj : ∀ cs b, oj.op ≠ .select cs b) {Φ : World → Prop} {K : (World → Prop) → Act → Prop} {a : Act}
    (hy : YieldsB P ops C oi v a) (h : hOp P ops C j Φ K (a.put oi.dst v)) :
    hOp P ops C j Φ (fun Φ' a' => YieldsB P ops C oi v a' ∧ K Φ' (a'.put oi.dst v)) a := by
  obtain ⟨h1, h2, h3⟩ := Oper.apart_spec hap
  have keep : ∀ (a : Act), YieldsB P ops C oi v a → ∀ u, YieldsB P ops C oi v (a.put oj.dst u) := fun a hy u =>
    hy.of_same (execOp_put oi hsi a oj.dst u h3) (wanted_put oi a oj.dst u h3)
  unfold Proofs.YtkjbkalakafnlaaDoor.hOp at *
  simp only [hj] at *
  rw [wanted_put oj a oi.dst v h1] at h
  split
  · rename_i hw
    simp only [hw, if_true] at h
    rcases h with ⟨u, hu, hn⟩ | ⟨Ψ, g1, g2, g3⟩
    · refine .inl ⟨u, fun w hw' => ?_, keep a hy u, by rw [← Act.put_comm a v u h2]; exact hn⟩
      have := hu w hw'
      unfold Oper.quietAt at *
      rwa [execOp_put oj hsj a oi.dst v h1] at this
    · refine .inr ⟨Ψ, g1, fun w hw' hΦ' => ?_, fun u => ⟨keep a hy u, by rw [← Act.put_comm a v u h2]; exact g3 u⟩⟩
      have := g2 w hw' hΦ'
      rwa [execOp_put oj hsj a oi.dst v h1] at this
  · rename_i hw
    simp only [hw] at h
    exact ⟨keep a hy _, by rw [← Act.put_comm a v undef h2]; exact h⟩
theorem wpH_first {n i : Nat} {oi : Oper} {v : Value} {L : Array Bool → (World → Prop) → Act → Prop} (hi : ops[i]? = some oi) (hsel : ∀ (j : Nat) (o : Oper) cs b, ops[j]? = some o → o.op ≠ .select cs b)
    (hs : Region.sinkB md ops n = true) (hc : Region.chainB md ops n = true) (hn : n < ops.size) (hin : i < n)
    (hdone : ∀ listed Φ a, L listed Φ a → ∀ j ∈ Region.ready md ops listed, n ≤ j) :
    ∀ (f : Nat) (listed : Array Bool) (Φ : World → Prop) (a : Act), HeadInv md ops n listed →
      (∀ j oj, ops[j]? = some oj → j ≠ i → listed.getD j true = false → (∀ e ∈ oj.after, Region.binds md e = true → e.on ≠ i) → oi.apart ops oj = true) →
      i ∈ Region.ready md ops listed → YieldsB P ops C oi v a →
      wpH P md ops C n L f (listed.setIfInBounds i true) Φ (a.put oi.dst v) → wpH P md ops C n L (f + 1) listed Φ a := by
  intro f
  induction f with
  | zero =>
    intro listed Φ a inv _ hr hy H
    have hun := (mem_ready.1 hr).1
    refine ⟨fun h => (by rw [h] at hr; cases hr), fun j hj => ?_⟩
    have hjn : j < n := by
      rcases Nat.lt_or_ge j n with h | h
      · exact h
      · exact absurd hj (tail_waits hs hc hn inv _ i rfl hin hun j h)
    refine ⟨hjn, ?_⟩
    by_cases hji : j = i
    · subst hji; exact hy.hOp hi H
    · have := hdone _ _ _ H j (ready_mono hj hji)
      omega
  | succ f ih =>
    intro listed Φ a inv hfree hr hy H
    have hun := (mem_ready.1 hr).1
    refine ⟨fun h => (by rw [h] at hr; cases hr), fun j hj => ?_⟩
    have hjn : j < n := by
      rcases Nat.lt_or_ge j n with h | h
      · exact h
      · exact absurd hj (tail_waits hs hc hn inv _ i rfl hin hun j h)
    refine ⟨hjn, ?_⟩
    by_cases hji : j = i
    · subst hji; exact hy.hOp hi H
    · have h1 := (H.2 j (ready_mono hj hji)).2
      obtain ⟨hjun, oj, hoj, hall⟩ := mem_ready.1 hj
      have hnot : ∀ e ∈ oj.after, Region.binds md e = true → e.on ≠ i := fun e he hb heq => by
        have h1 := hall e he hb
        rw [heq, getD_both hun] at h1
        cases h1
      have h2 := hOp_put hoj (hfree j oj hoj hji hjun hnot) (fun cs b => hsel i oi cs b hi) (fun cs b => hsel j oj cs b hoj) hy h1
      have hfree' : ∀ k ok, ops[k]? = some ok → k ≠ i → (listed.setIfInBounds j true).getD k true = false →
          (∀ e ∈ ok.after, Region.binds md e = true → e.on ≠ i) → oi.apart ops ok = true := fun k ok hk hki hun hno => by
        refine hfree k ok hk hki ?_ hno
        by_cases hjk : j = k
        · subst hjk; exact hjun
        · rw [getD_set_ne true hjk] at hun; exact hun
      refine hOp_mono (fun Φ' a' h3 => ih (listed.setIfInBounds j true) Φ' a' (inv.set hj hjn) hfree' (ready_mono hr (Ne.symm hji)) h3.1 ?_) h2
      rw [Array.setIfInBounds_comm _ _ hji]
      exact h3.2
/-- A chain of operations that make blocks or write a row of one's own, each known to be the only one that may come. -/
def wpT (P : Program) (C : World → Prop) (Lq : (World → Prop) → Act → Prop) : List Oper → (World → Prop) → Act → Prop
  | [], Φ, a => Lq Φ a
  | o :: c, Φ, a => o.guard = none ∧ ∃ Ψ : Value → World → Prop, (∀ v, Stable (Ψ v)) ∧ (∀ w, C w → Φ w → ∃ v w', (execOp a.eval o).run P w = .ok (.value v) w' ∧ C w' ∧ Ψ v w') ∧ ∀ v, wpT P C Lq c (Ψ v) (a.put o.dst v)
/-- m: how many heads there are that read alone; n: where the tail begins that waits for all. -/
def tailB (md : Region.Mode) (ops : Array Oper) (m n : Nat) : Bool :=
  Region.noSelect ops && decide (n < ops.size) && decide (m ≤ n) && Region.sinkB md ops n && Region.chainB md ops n && Region.lexHead md ops (ops.size - m) m 0 (Array.replicate ops.size false)
theorem wpH_chain {n g : Nat} {Lq : (World → Prop) → Act → Prop} :
    ∀ (c : List Oper) (k : Nat) (listed : Array Bool) (Φ : World → Prop) (a : Act), (∀ j, j < c.length → c[j]? = ops[k + j]?) → k + c.length = n → Region.seqB md ops (g + c.length) k listed = true → wpT P C Lq c Φ a →
    wpH P md ops C n (fun listed' Φ' a' => Region.seqB md ops g n listed' = true ∧ Lq Φ' a') c.length listed Φ a
  | [], k, listed, Φ, a, _, hk, hB, h => by
    have : k = n := by simpa using hk
    subst this
    exact ⟨by simpa using hB, h⟩
  | o :: c, k, listed, Φ, a, hl, hk, hB, h => by
    have h0 : ops[k]? = some o := by simpa using (hl 0 (by simp)).symm
    obtain ⟨hgd, Ψ, h1, h2, h3⟩ := h
    simp only [List.length_cons] at hB hk
    rw [← Nat.add_assoc] at hB
    simp only [Region.seqB, Bool.and_eq_true, decide_eq_true_eq] at hB
    refine ⟨fun h0 => (by rw [hB.1] at h0; cases h0), fun i hi => ?_⟩
    rw [hB.1] at hi
    have hik : i = k := by simpa using hi
    subst hik
    refine ⟨by omega, ?_⟩
    unfold Proofs.YtkjbkalakafnlaaDoor.hOp
    simp only [h0]
    rw [if_pos (by simp [Region.wanted, hgd])]
    exact .inr ⟨Ψ, h1, h2, fun v => wpH_chain c (i + 1) _ (Ψ v) _ (fun j hj => by have := hl (j + 1) (by simp; omega); simpa [Nat.add_assoc, Nat.add_comm 1 j] using this) (by omega) hB.2 (h3 v)⟩
theorem wpH_lex {n g : Nat} {Lq : (World → Prop) → Act → Prop} (c : List Oper) (hsel : Region.noSelect ops = true) (hs : Region.sinkB md ops n = true) (hc : Region.chainB md ops n = true) (hn : n < ops.size) :
    ∀ (l : List Oper) (k : Nat) (listed : Array Bool) (Φ : World → Prop) (a : Act), (∀ j, j < l.length → l[j]? = ops[k + j]?) → (∀ j, j < c.length → c[j]? = ops[k + l.length + j]?) → k + l.length + c.length = n → HeadInv md ops n listed →
    Region.lexHead md ops (g + c.length) l.length k listed = true → wpQB P ops C (fun a' => wpT P C Lq c Φ a') l a →
    wpH P md ops C n (fun listed' Φ' a' => Region.seqB md ops g n listed' = true ∧ Lq Φ' a') (l.length + c.length) listed Φ a
  | [], k, listed, Φ, a, _, hcl, hk, inv, hB, h => by
    simp only [List.length_nil, Nat.zero_add, Nat.add_zero] at hk hcl ⊢
    exact wpH_chain c k listed Φ a hcl hk (by simpa [Region.lexHead] using hB) h
  | o :: l, k, listed, Φ, a, hl, hcl, hk, inv, hB, h => by
    have h0 : ops[k]? = some o := by simpa using (hl 0 (by simp)).symm
    simp only [List.length_cons, Region.lexHead, Bool.and_eq_true] at hB
    obtain ⟨⟨hr, hf⟩, hB'⟩ := hB
    simp only [List.length_cons] at hk hcl
    have hkn : k < n := by omega
    have hr' : k ∈ Region.ready md ops listed := by simpa using hr
    have key : ∃ v, YieldsB P ops C o v a ∧ wpQB P ops C (fun a' => wpT P C Lq c Φ a') l (a.put o.dst v) := by
      unfold wpQB at h
      by_cases hw : Region.wanted o (yielded ops a.tmps) = true
      · rw [if_pos hw] at h
        obtain ⟨v, h1, h2⟩ := h
        exact ⟨v, .inl ⟨hw, h1⟩, h2⟩
      · rw [if_neg hw] at h
        exact ⟨undef, .inr ⟨by simpa using hw, rfl⟩, h⟩
    obtain ⟨v, hy, hK⟩ := key
    have e : (o :: l).length + c.length = l.length + c.length + 1 := by simp; omega
    rw [e]
    exact wpH_first h0 (Region.noSelect_spec hsel) hs hc hn hkn (fun listed' Φ' a' hL => seqB_ready hL.1) (l.length + c.length) listed Φ a inv (Region.free_spec h0 hf) hr' hy
      (wpH_lex c hsel hs hc hn l (k + 1) _ Φ _ (fun j hj => by have := hl (j + 1) (by simp; omega); simpa [Nat.add_assoc, Nat.add_comm 1 j] using this) (fun j hj => by have := hcl j hj; rw [this]; congr 1; omega) (by omega) (inv.set hr' hkn) hB' hK)
/-- The chain, in the worlds themselves. -/
def chainA (P : Program) (C : World → Prop) (T : Act → World → Prop) : List Oper → Act → World → Prop
  | [], a, W => T a W
  | o :: c, a, W => ∃ v w2, (execOp a.eval o).run P W = .ok (.value v) w2 ∧ C w2 ∧ ∀ W', Below w2.heap.size w2 W' → C W' → chainA P C T c (a.put o.dst v) W'
theorem wpT_of_chain {T : Act → World → Prop} : ∀ (c : List Oper) (Φ : World → Prop) (a : Act), c.all (fun o => o.guard.isNone) = true → (∀ W, C W → Φ W → chainA P C T c a W) → wpT P C (fun Φ a => ∀ W, C W → Φ W → T a W) c Φ a
  | [], Φ, a, _, h => h
  | o :: c, Φ, a, hg, h => by
    simp only [List.all_cons, Bool.and_eq_true] at hg
    refine ⟨by simpa using hg.1, fun v W => ∃ w2, Below w2.heap.size w2 W ∧ ∀ W', Below w2.heap.size w2 W' → C W' → chainA P C T c (a.put o.dst v) W', fun v w w' ⟨w2, h1, h2⟩ hb => ⟨w2, bup h1 hb, h2⟩, fun w hw hΦ => ?_, fun v => wpT_of_chain c _ _ hg.2 fun W hW ⟨w2, h1, h2⟩ => h2 W h1 hW⟩
    obtain ⟨v, w2, h1, h2, h3⟩ := h w hw hΦ
    exact ⟨v, w2, h1, h2, w2, Below.refl _ _, h3⟩
/-- Heads that read alone, a chain that makes blocks or writes a row of one's own, and a tail that is walked in its order. -/
theorem wp_region_tail {id : Nat} {Q : Exit → Act → World → Prop} {a : Act} {w : World} {l : List Oper} (m n : Nat) (hC : Stable C) (hm : P.follows .mixedOrders = true) (hB : tailB .any l.toArray m n = true) (hgd : ((l.drop m).take (n - m)).all (fun o => o.guard.isNone) = true) (hCw : C w)
    (h : wpQB P l.toArray C (fun a' => ∀ W, C W → Below w.heap.size w W → chainA P C (wpList P l.toArray Q (l.drop n)) ((l.drop m).take (n - m)) a' W) (l.take m) a) : (Code.region id l.toArray true).wp P Q a w := by
  simp only [tailB, Bool.and_eq_true, decide_eq_true_eq] at hB
  obtain ⟨⟨⟨⟨⟨hsel, hn⟩, hmn⟩, hs⟩, hc⟩, hlex⟩ := hB
  have hn' : n < l.length := by simpa using hn
  have htl : (l.take m).length = m := by simp; omega
  have hcl : ((l.drop m).take (n - m)).length = n - m := by simp; omega
  have hdl : (l.drop n).length = l.toArray.size - n := by simp
  have inv0 : HeadInv .any l.toArray n (Array.replicate l.toArray.size false) :=
    ⟨by simp, fun j oj _ hl => (by rw [getD_replicate_false] at hl; cases hl), fun t _ ht => getD_in (by simpa using ht) (getD_replicate_false _ _)⟩
  have hg : l.toArray.size - m = (l.toArray.size - n) + ((l.drop m).take (n - m)).length := by rw [hcl]; simp; omega
  have H := wpH_lex (P := P) (C := C) (md := .any) (g := l.toArray.size - n) (Lq := fun Φ a' => ∀ W, C W → Φ W → wpList P l.toArray Q (l.drop n) a' W) ((l.drop m).take (n - m)) hsel hs hc hn (l.take m) 0 _ (fun W => Below w.heap.size w W) a (fun j hj => by
    have hj' : j < m := by rw [htl] at hj; exact hj
    simp [hj']) (fun j hj => by
    rw [hcl] at hj
    rw [htl, List.getElem?_take, if_pos hj, List.getElem?_drop]
    simp) (by rw [htl, hcl]; omega) inv0 (by rw [htl, ← hg]; exact hlex) (wpQB_mono (fun a' h => wpT_of_chain _ _ _ hgd fun W hW hb => h W hW hb) h)
  refine wp_region_any hm ?_
  have hst : Stable (fun W => Below w.heap.size w W) := fun _ _ h h' => bup h h'
  have hΦ : Below w.heap.size w { w with drawn := w.drawn + 1 } := ⟨rfl, rfl, rfl, Nat.le_refl _, fun _ _ => rfl⟩
  have hw' : C { w with drawn := w.drawn + 1 } := hC _ _ hCw ⟨rfl, rfl, rfl, Nat.le_refl _, fun _ _ => rfl⟩
  have := wpAny_of_H hC (Q' := Q) (g := l.toArray.size - n) (L := fun listed' Φ' a' => Region.seqB .any l.toArray (l.toArray.size - n) n listed' = true ∧ ∀ W, C W → Φ' W → wpList P l.toArray Q (l.drop n) a' W) (fun listed Φ a' W hW hΦ hL => by
    have := wpAny_of_seq (md := .any) (Q' := Q) (l.drop n) n listed a' W (fun j => by simp [List.getElem?_drop]) (by rw [hdl]; exact hL.1) (hL.2 W hW hΦ)
    rwa [hdl] at this) _ _ (fun W => Below w.heap.size w W) a _ hst hw' hΦ H
  have e : (l.take m).length + ((l.drop m).take (n - m)).length + (l.toArray.size - n) = l.toArray.size := by rw [htl, hcl]; simp; omega
  rwa [e] at this
end
end Go.Proofs.YtkjbkalakafnlaaDoor
