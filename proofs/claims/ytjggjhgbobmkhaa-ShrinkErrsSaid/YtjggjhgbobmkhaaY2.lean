/- Several texts of one claim in one file: E0 TB. -/
import Derived.Test.YtjggjhgbobmkhaaY1
/- A calculus of one's own over the walk's: frames as functions of the slots, operations step by step, each by one lemma. -/
namespace Go.Proofs.Ytjggjhgbobmkhaa
open Go.RowKit
set_option linter.unusedVariables false
set_option linter.unusedSimpArgs false

theorem nbeq_ne {a b : Nat} (h : a ≠ b) : Nat.beq a b = false := by
  rw [← Bool.not_eq_true]
  intro h'
  exact h (Nat.eq_of_beq_eq_true h')
theorem nbeq_self (a : Nat) : Nat.beq a a = true := Nat.beq_refl a
theorem nblt {a b : Nat} (h : Nat.blt a b = true) : a < b := Nat.le_of_ble_eq_true h
abbrev Fm := Nat → Value
def upd (F : Fm) (d : Nat) (v : Value) : Fm := fun t => bif Nat.beq t d then v else F t
def updO (F : Fm) : Option Nat → Value → Fm
  | some d, v => upd F d v
  | none, _ => F
structure Fr (a : Act) (n : Nat) (F : Fm) : Prop where
  size : a.tmps.size = n
  defers : a.defers = []
  get : ∀ t, a.tmps.getD t undef = F t
def ev (F : Fm) : Operand → Value
  | .tmp t => F t
  | .const v => v
  | .global g => .pointer (some ⟨g, 0, none⟩)
  | .func f => .func (.func f) #[] #[]
theorem Fr.eval {a : Act} {n : Nat} {F : Fm} (h : Fr a n F) : a.eval = ev F := funext fun x => by
  cases x <;> simp only [Act.eval, ev]
  exact h.get _
def dstOk (n : Nat) : Option Nat → Bool
  | none => true
  | some d => Nat.blt d n
theorem Fr.put {a : Act} {n : Nat} {F : Fm} (h : Fr a n F) {d : Option Nat} (hd : dstOk n d = true) (v : Value) : Fr (a.put d v) n (updO F d v) := by
  cases d with
  | none => exact h
  | some d =>
    have hd' : d < a.tmps.size := by rw [h.size]; exact nblt hd
    refine ⟨by simp [Act.put, h.size], h.defers, fun t => ?_⟩
    simp only [Act.put, updO, upd]
    by_cases e : t = d
    · subst e
      rw [nbeq_self]
      simp [Array.getD, hd']
    · have : Nat.beq t d = false := nbeq_ne e
      simp only [this, cond_false]
      rw [← h.get t]
      simp [Array.getD_eq_getD_getElem?, Array.getElem?_setIfInBounds, Ne.symm e]
theorem upd_self (F : Fm) (t : Nat) (v : Value) (h : F t = v) : upd F t v = F := funext fun s => by
  unfold upd
  by_cases e : s = t
  · subst e; rw [nbeq_self]; exact h.symm
  · rw [nbeq_ne e]; rfl

/-! ### types, as a table -/
structure TI where
  desc : TypeDesc
  size : Nat
  bytes : Nat
  zero : Value
/-- A tree of types, by their numbers. -/
inductive TT where
  | leaf
  | node (l : TT) (t : Nat) (i : TI) (r : TT)
def lookT : TT → Nat → Option TI
  | .leaf, _ => none
  | .node l t i r, u => bif Nat.beq u t then some i else bif Nat.blt u t then lookT l u else lookT r u
def EntryOk (P : Program) (t : Nat) (i : TI) : Prop := P.underlying t = some i.desc ∧ (P.info? t).map (fun j => (j.zero, j.size, j.bytes)) = some (some i.zero, i.size, i.bytes)
structure TabOk (P : Program) (T : Nat → Option TI) : Prop where
  ok : ∀ t i, T t = some i → EntryOk P t i
def TreeOk (P : Program) : TT → Prop
  | .leaf => True
  | .node l t i r => TreeOk P l ∧ EntryOk P t i ∧ TreeOk P r
theorem lookT_ok {P : Program} : ∀ {l : TT}, TreeOk P l → ∀ t i, lookT l t = some i → EntryOk P t i
  | .leaf, _, t, i, h => by simp [lookT] at h
  | .node l u j r, ⟨h1, h2, h3⟩, t, i, h => by
    simp only [lookT] at h
    by_cases e : t = u
    · subst e
      rw [nbeq_self] at h
      simp only [cond_true, Option.some.injEq] at h
      subst h
      exact h2
    · rw [nbeq_ne e] at h
      simp only [cond_false] at h
      cases hb : Nat.blt t u
      · rw [hb] at h; exact lookT_ok h3 t i h
      · rw [hb] at h; exact lookT_ok h1 t i h
theorem tabOk_of {P : Program} {l : TT} (h : TreeOk P l) : TabOk P (lookT l) := ⟨lookT_ok h⟩

structure Post where
  n : Fm → World → Prop
  r : Fm → World → Prop
  x : Nat → Fm → World → Prop
def lift (n : Nat) (Q : Post) : Exit → Act → World → Prop
  | .normal, a, w => ∃ F, Fr a n F ∧ Q.n F w
  | .ret, a, w => ∃ F, Fr a n F ∧ Q.r F w
  | .exit i, a, w => ∃ F, Fr a n F ∧ Q.x i F w
  | _, _, _ => False
def wc (P : Program) (n : Nat) (c : Code) (Q : Post) (F : Fm) (w : World) : Prop := ∀ a, Fr a n F → c.wp P (lift n Q) a w
def wl (P : Program) (n : Nat) (ops : Array Oper) (rest : List Oper) (Q : Post) (F : Fm) (w : World) : Prop := ∀ a, Fr a n F → wpList P ops (lift n Q) rest a w
def Post.seq (next : Fm → World → Prop) (Q : Post) : Post := ⟨next, Q.r, Q.x⟩
def Post.blk (id : Nat) (Q : Post) : Post := ⟨Q.n, Q.r, fun i F w => bif Nat.beq i id then Q.n F w else Q.x i F w⟩

section rules
variable {P : Program} {n : Nat} {Q : Post} {F : Fm} {w : World}
theorem lift_mono {Q' : Post} (hn : ∀ F w, Q.n F w → Q'.n F w) (hr : ∀ F w, Q.r F w → Q'.r F w) (hx : ∀ i F w, Q.x i F w → Q'.x i F w) : ∀ e a w, lift n Q e a w → lift n Q' e a w := by
  intro e a w h
  cases e <;> simp only [lift] at h ⊢
  · obtain ⟨F, h1, h2⟩ := h; exact ⟨F, h1, hn _ _ h2⟩
  · obtain ⟨F, h1, h2⟩ := h; exact ⟨F, h1, hx _ _ _ h2⟩
  · obtain ⟨F, h1, h2⟩ := h; exact ⟨F, h1, hr _ _ h2⟩
theorem wc_mono {c : Code} {Q' : Post} (h : wc P n c Q F w) (hn : ∀ F w, Q.n F w → Q'.n F w) (hr : ∀ F w, Q.r F w → Q'.r F w) (hx : ∀ i F w, Q.x i F w → Q'.x i F w) : wc P n c Q' F w :=
  fun a ha => wp_mono (h a ha) (lift_mono hn hr hx)
theorem wc_seq {x y : Code} (h : wc P n x (Q.seq (wc P n y Q)) F w) : wc P n (.seq x y) Q F w := fun a ha =>
  wp_seq (wp_mono (h a ha) (by
    intro e a w h
    cases e <;> simp only [lift, Post.seq] at h <;> simp only [Exit.then]
    · obtain ⟨F, h1, h2⟩ := h; exact h2 a h1
    · exact h
    · exact h))
theorem wc_skip (h : Q.n F w) : wc P n .skip Q F w := fun a ha => wp_skip ⟨F, ha, h⟩
theorem wc_ret (h : Q.r F w) : wc P n .ret Q F w := fun a ha => wp_ret ⟨F, ha, h⟩
theorem wc_exit {i : Nat} (h : Q.x i F w) : wc P n (.exit i) Q F w := fun a ha => wp_exit ⟨F, ha, h⟩
theorem wc_label {i : Nat} (h : Q.n F w) : wc P n (.label i) Q F w := fun a ha => wp_label ⟨F, ha, h⟩
theorem wc_block {id : Nat} {c : Code} (h : wc P n c (Q.blk id) F w) : wc P n (.block id c) Q F w := fun a ha =>
  wp_block (wp_mono (h a ha) (by
    intro e a w h
    cases e <;> simp only [lift, Post.blk] at h <;> simp only [Exit.inBlock]
    · exact h
    · rename_i i
      obtain ⟨F, h1, h2⟩ := h
      by_cases e : i = id
      · subst e; rw [nbeq_self] at h2; simp only [if_true]; exact ⟨F, h1, h2⟩
      · rw [nbeq_ne e] at h2; simp only [e, if_false]; exact ⟨F, h1, h2⟩
    · exact h))
theorem wc_if {c : Operand} {x y : Code} {b : Bool} (hc : ev F c = .bool b) (ht : b = true → wc P n x Q F w) (hf : b = false → wc P n y Q F w) : wc P n (.cond c x y) Q F w := fun a ha => by
  have hc' : a.eval c = .bool b := by rw [ha.eval]; exact hc
  exact wp_cond_split hc' (fun h => ht h a ha) (fun h => hf h a ha)
theorem wc_ift {c : Operand} {x y : Code} (hc : ev F c = .bool true) (ht : wc P n x Q F w) : wc P n (.cond c x y) Q F w := wc_if hc (fun _ => ht) (fun h => by cases h)
theorem wc_iff {c : Operand} {x y : Code} (hc : ev F c = .bool false) (hf : wc P n y Q F w) : wc P n (.cond c x y) Q F w := wc_if hc (fun h => by cases h) (fun _ => hf)

/-! ### loops -/
def holds (F : Fm) : List (Nat × Value) → Prop
  | [] => True
  | (t, v) :: l => F t = v ∧ holds F l
def upds (F : Fm) : List (Nat × Value) → Fm
  | [] => F
  | (t, v) :: l => upd (upds F l) t v
theorem upds_of_holds {F : Fm} : ∀ {l : List (Nat × Value)}, holds F l → upds F l = F
  | [], _ => rfl
  | (t, v) :: l, ⟨h, hl⟩ => by
    simp only [upds]
    rw [upds_of_holds hl]
    exact upd_self F t v h
theorem wc_loop {X : Type} (S : X → List (Nat × Value)) (R : X → World → Prop) (m : X → Nat) (x0 : X) {body : Code} (hS : holds F (S x0)) (hR : R x0 w)
    (round : ∀ x G w, R x w → wc P n body (Q.seq fun F' w' => ∃ x', holds F' (S x') ∧ R x' w' ∧ m x' < m x) (upds G (S x)) w) : wc P n (.loop body) Q F w := by
  intro a ha
  classical
  let I : Act → World → Nat → Prop := fun a w d => ∃ x F, Fr a n F ∧ holds F (S x) ∧ R x w ∧ m x = d
  let μ : Act → World → Nat := fun a w => if h : ∃ d, I a w d then h.choose else 0
  have least : ∀ a w, (∃ d, I a w d) → ∃ d, I a w d ∧ ∀ d', I a w d' → d ≤ d' := by
    intro a w ⟨d, hd⟩
    induction d using Nat.strongRecOn with
    | _ d ih =>
      by_cases h : ∃ d', I a w d' ∧ d' < d
      · obtain ⟨d', h1, h2⟩ := h
        exact ih d' h2 h1
      · exact ⟨d, hd, fun d' h1 => Nat.le_of_not_lt fun h2 => h ⟨d', h1, h2⟩⟩
  let ν : Act → World → Nat := fun a w => if h : ∃ d, I a w d then (least a w h).choose else 0
  have hν : ∀ a w (h : ∃ d, I a w d), I a w (ν a w) ∧ ∀ d', I a w d' → ν a w ≤ d' := by
    intro a w h
    have : ν a w = (least a w h).choose := by simp only [ν]; rw [dif_pos h]
    rw [this]
    exact (least a w h).choose_spec
  refine wp_loop (fun a w => ∃ d, I a w d) ν ⟨_, x0, F, ha, hS, hR, rfl⟩ ?_
  intro a w hI
  obtain ⟨⟨x, F, hF, hS, hR, hm⟩, _⟩ := hν a w hI
  have hr := round x F w hR
  rw [upds_of_holds hS] at hr
  refine wp_mono (hr a hF) ?_
  intro e a' w' h
  cases e <;> simp only [lift] at h <;> simp only [Exit.then]
  · obtain ⟨F', h1, x', h2, h3, h4⟩ := h
    have hI' : ∃ d, I a' w' d := ⟨_, x', F', h1, h2, h3, rfl⟩
    exact ⟨hI', Nat.lt_of_le_of_lt ((hν a' w' hI').2 _ ⟨x', F', h1, h2, h3, rfl⟩) (by omega)⟩
  · exact h
  · exact h
/-! ### entry and end -/
def initF : Nat → List Value → Fm
  | _, [] => fun _ => undef
  | k, v :: l => upd (initF (k + 1) l) k v
theorem initF_get : ∀ (l : List Value) (k t : Nat), initF k l t = if t < k then undef else l.getD (t - k) undef
  | [], k, t => by simp [initF]
  | v :: l, k, t => by
    simp only [initF, upd]
    by_cases e : t = k
    · subst e; rw [nbeq_self]; simp
    · have : Nat.beq t k = false := nbeq_ne e
      simp only [this, cond_false]
      rw [initF_get l (k + 1) t]
      by_cases h : t < k
      · rw [if_pos h, if_pos (by omega)]
      · rw [if_neg h, if_neg (by omega)]
        obtain ⟨j, rfl⟩ : ∃ j, t = k + 1 + j := ⟨t - (k + 1), by omega⟩
        simp [show k + 1 + j - k = j + 1 by omega, show k + 1 + j - (k + 1) = j by omega]
def retQ (P : Program) (fn : Func) (R : Ending → World → Prop) (F : Fm) (w : World) : Prop := ∀ tmps : Array Value, (∀ t, tmps.getD t undef = F t) → ∃ v, (results fn tmps).run P w = .ok v w ∧ R (.returned v) w
theorem enterW {f : FuncId} {fn : Func} {c : Code} {args : List Value} {R : Ending → World → Prop} (m : Nat) (hf : P.funcs[f]? = some fn) (hb : fn.body = some c) (hm : fn.ntmps = m) (hn : Nat.ble args.length m = true)
    (h : wc P m c ⟨retQ P fn R, retQ P fn R, fun _ _ _ => False⟩ (initF 0 args) w) : Calls P f args.toArray w R := by
  subst hm
  refine calls_of_wp hf hb (wp_mono (h _ ⟨?_, rfl, fun t => ?_⟩) ?_)
  · have : args.length ≤ fn.ntmps := by simpa using hn
    simp; omega
  · rw [initF_get]
    simp only [Nat.not_lt_zero, if_false, Nat.sub_zero]
    rw [Array.getD_eq_getD_getElem?, Array.getElem?_append]
    by_cases ht : t < args.length
    · simp [ht, List.getD_eq_getElem?_getD]
    · simp [ht, List.getD_eq_getElem?_getD, Array.getElem?_replicate, List.getElem?_eq_none (Nat.le_of_not_lt ht)]
      split <;> rfl
  · intro e a w h
    cases e <;> simp only [lift] at h <;> simp only [bodyPost]
    · obtain ⟨F, h1, h2⟩ := h; exact ⟨h1.defers, h2 _ h1.get⟩
    · obtain ⟨F, h1, h2⟩ := h; exact h2
    · obtain ⟨F, h1, h2⟩ := h; exact ⟨h1.defers, h2 _ h1.get⟩
theorem ret1 {fn : Func} {R : Ending → World → Prop} {t : Tmp} (hr : fn.results = #[.tmp t]) {v : Value} (hv : F t = v) (h : R (.returned v) w) : retQ P fn R F w := fun tmps ht => by
  subst hv
  exact ⟨_, results_tmp hr tmps P w, by rw [ht]; exact h⟩

/-! ### operations -/
variable {ops : Array Oper} {rest : List Oper} {o : Oper}
theorem wc_reg {id : Nat} {l : List Oper} (h : wl P n l.toArray l Q F w) : wc P n (.region id l.toArray false) Q F w := fun a ha => wp_region_lit (h a ha)
theorem wl_nil (h : Q.n F w) : wl P n ops [] Q F w := fun a ha => wpList_nil ⟨F, ha, h⟩
theorem dst_some {d : Nat} (hd : o.dst = some d) (hn : Nat.blt d n = true) : dstOk n o.dst = true := by rw [hd]; exact hn
theorem wl_val {v : Value} {w1 : World} {d : Nat} (hg : o.guard = none) (hd : o.dst = some d) (hn : Nat.blt d n = true) (hrun : (execOp (ev F) o).run P w = .ok (.value v) w1) (k : wl P n ops rest Q (upd F d v) w1) : wl P n ops (o :: rest) Q F w :=
  fun a ha => wpList_plain hg fun K hK => by
    unfold Oper.wp
    rw [ha.eval, hrun]
    refine hK _ _ (k _ ?_)
    have := ha.put (dst_some hd hn) v
    rw [hd] at this ⊢
    exact this
theorem wl_skp {w1 : World} (hg : o.guard = none) (hd : o.dst = none) (hrun : (execOp (ev F) o).run P w = .ok .skip w1) (k : wl P n ops rest Q F w1) : wl P n ops (o :: rest) Q F w :=
  fun a ha => wpList_plain hg fun K hK => by
    unfold Oper.wp
    rw [ha.eval, hrun]
    refine hK _ _ (k _ ?_)
    rw [hd]
    exact ha
theorem wl_ent {f : FuncId} {args : Array Value} {R : Ending → World → Prop} {d : Nat} (hg : o.guard = none) (hd : o.dst = some d) (hn : Nat.blt d n = true) (hrun : (execOp (ev F) o).run P w = .ok (.enter f args) w) (hc : Calls P f args w R)
    (k : ∀ e w1, R e w1 → ∃ v, e = .returned v ∧ wl P n ops rest Q (upd F d v) w1) : wl P n ops (o :: rest) Q F w :=
  fun a ha => wpList_plain hg fun K hK => by
    unfold Oper.wp
    rw [ha.eval, hrun]
    refine hc.mono ?_
    intro e w1 hR
    obtain ⟨v, rfl, hv⟩ := k e w1 hR
    refine hK _ _ (hv _ ?_)
    have := ha.put (dst_some hd hn) v
    rw [hd] at this ⊢
    exact this
/-- A guarded operation. -/
def ung (o : Oper) : Oper := { o with guard := none }
theorem wl_gT {j : Nat} {b : Bool} {oj : Oper} {t : Tmp} (hg : o.guard = some (j, b)) (hj : ops[j]? = some oj) (ht : oj.dst = some t) (hb : F t = .bool b) (hn : Nat.blt t n = true) (k : wl P n ops (ung o :: rest) Q F w) : wl P n ops (o :: rest) Q F w := fun a ha => by
  have hlt : t < a.tmps.size := by rw [ha.size]; exact nblt hn
  have h1 := ha.get t
  rw [hb, Array.getD_eq_getD_getElem?, Array.getElem?_eq_getElem hlt] at h1
  have hw : Region.wanted o (yielded ops a.tmps) = true := by
    simp only [Region.wanted, hg, yielded, hj, Option.bind_some, ht, Array.getElem?_eq_getElem hlt]
    simp at h1
    simp [h1]
  have hk := k a ha
  unfold wpList at hk ⊢
  rw [if_pos hw]
  rw [if_pos (by simp [Region.wanted, ung])] at hk
  exact hk
theorem wl_gF {j : Nat} {b c : Bool} {oj : Oper} {t : Tmp} (hg : o.guard = some (j, b)) (hj : ops[j]? = some oj) (ht : oj.dst = some t) (hb : F t = .bool c) (hne : (c == b) = false) (hn : Nat.blt t n = true) {d : Nat} (hd : o.dst = some d) (hdn : Nat.blt d n = true) (k : wl P n ops rest Q (upd F d undef) w) : wl P n ops (o :: rest) Q F w := fun a ha => by
  have hlt : t < a.tmps.size := by rw [ha.size]; exact nblt hn
  have h1 := ha.get t
  rw [hb, Array.getD_eq_getD_getElem?, Array.getElem?_eq_getElem hlt] at h1
  have hw : Region.wanted o (yielded ops a.tmps) = false := by
    simp only [Region.wanted, hg, yielded, hj, Option.bind_some, ht, Array.getElem?_eq_getElem hlt]
    simp at h1
    simp [h1]
    simpa using hne
  have hk := k _ (by have := ha.put (dst_some hd hdn) undef; rw [hd] at this; exact this)
  rw [← hd] at hk
  unfold wpList
  rw [hw]
  simpa using hk
/-- A guard whose guard wasn't met either. -/
theorem wl_gU {j : Nat} {b : Bool} {oj : Oper} {t : Tmp} (hg : o.guard = some (j, b)) (hj : ops[j]? = some oj) (ht : oj.dst = some t) (hb : F t = undef) (hn : Nat.blt t n = true) {d : Nat} (hd : o.dst = some d) (hdn : Nat.blt d n = true) (k : wl P n ops rest Q (upd F d undef) w) : wl P n ops (o :: rest) Q F w := fun a ha => by
  have hlt : t < a.tmps.size := by rw [ha.size]; exact nblt hn
  have h1 := ha.get t
  rw [hb, Array.getD_eq_getD_getElem?, Array.getElem?_eq_getElem hlt] at h1
  have hw : Region.wanted o (yielded ops a.tmps) = false := by
    simp only [Region.wanted, hg, yielded, hj, Option.bind_some, ht, Array.getElem?_eq_getElem hlt]
    simp at h1
    simp [h1, undef]
  have hk := k _ (by have := ha.put (dst_some hd hdn) undef; rw [hd] at this; exact this)
  rw [← hd] at hk
  unfold wpList
  rw [hw]
  simpa using hk
end rules
attribute [irreducible] wc wl retQ
end Go.Proofs.Ytjggjhgbobmkhaa

/- The types of this program, as a table; each row is proved by the kernel. WRITTEN BY gentab.py. -/
namespace Go.Proofs.Ytjggjhgbobmkhaa
set_option maxRecDepth 100000
def ti1 : TI := ⟨(.func #[] #[] false), 1, 8, (.nilFunc)⟩
theorem to1 : EntryOk Try.prog 1 ti1 := ⟨Try.underlying1, by kernel_rfl⟩
def ti2 : TI := ⟨(.int .i64), 1, 8, (.int .i64 0)⟩
theorem to2 : EntryOk Try.prog 2 ti2 := ⟨Try.underlying2, by kernel_rfl⟩
def ti3 : TI := ⟨(.int .i64), 1, 8, (.int .i64 0)⟩
theorem to3 : EntryOk Try.prog 3 ti3 := ⟨Try.underlying3, by kernel_rfl⟩
def ti4 : TI := ⟨.bool, 1, 1, (.bool false)⟩
theorem to4 : EntryOk Try.prog 4 ti4 := ⟨Try.underlying4, by kernel_rfl⟩
def ti5 : TI := ⟨(.int .u8), 1, 1, (.int .u8 0)⟩
theorem to5 : EntryOk Try.prog 5 ti5 := ⟨Try.underlying5, by kernel_rfl⟩
def ti6 : TI := ⟨(.int .u8), 1, 1, (.int .u8 0)⟩
theorem to6 : EntryOk Try.prog 6 ti6 := ⟨Try.underlying6, by kernel_rfl⟩
def ti9 : TI := ⟨.string, 1, 16, (.string ByteArray.empty)⟩
theorem to9 : EntryOk Try.prog 9 ti9 := ⟨Try.underlying9, by kernel_rfl⟩
def ti10 : TI := ⟨.string, 1, 16, (.string ByteArray.empty)⟩
theorem to10 : EntryOk Try.prog 10 ti10 := ⟨Try.underlying10, by kernel_rfl⟩
def ti11 : TI := ⟨.string, 1, 16, (.string ByteArray.empty)⟩
theorem to11 : EntryOk Try.prog 11 ti11 := ⟨Try.underlying11, by kernel_rfl⟩
def ti12 : TI := ⟨(.int .u64), 1, 8, (.int .u64 0)⟩
theorem to12 : EntryOk Try.prog 12 ti12 := ⟨Try.underlying12, by kernel_rfl⟩
def ti15 : TI := ⟨(.pointer 140), 1, 8, (.pointer none)⟩
theorem to15 : EntryOk Try.prog 15 ti15 := ⟨Try.underlying15, by kernel_rfl⟩
def ti16 : TI := ⟨(.pointer 143), 1, 8, (.pointer none)⟩
theorem to16 : EntryOk Try.prog 16 ti16 := ⟨Try.underlying16, by kernel_rfl⟩
def ti17 : TI := ⟨(.pointer 151), 1, 8, (.pointer none)⟩
theorem to17 : EntryOk Try.prog 17 ti17 := ⟨Try.underlying17, by kernel_rfl⟩
def ti21 : TI := ⟨(.int .i32), 1, 4, (.int .i32 0)⟩
theorem to21 : EntryOk Try.prog 21 ti21 := ⟨Try.underlying21, by kernel_rfl⟩
def ti22 : TI := ⟨(.slice 66), 1, 24, (.slice none 0 0)⟩
theorem to22 : EntryOk Try.prog 22 ti22 := ⟨Try.underlying22, by kernel_rfl⟩
def ti23 : TI := ⟨(.struct #[{ name := "Vars", type := 5, offset := 0, embedded := false, tag := "", pkgPath := "", byteOffset := 0 }, { name := "Cells", type := 5, offset := 1, embedded := false, tag := "", pkgPath := "", byteOffset := 1 }, { name := "Acts", type := 22, offset := 2, embedded := false, tag := "", pkgPath := "", byteOffset := 8 }]), 3, 32, (.agg #[.int .u8 0, .int .u8 0, .slice none 0 0])⟩
theorem to23 : EntryOk Try.prog 23 ti23 := ⟨Try.underlying23, by kernel_rfl⟩
def ti24 : TI := ⟨(.struct #[{ name := "Vars", type := 5, offset := 0, embedded := false, tag := "", pkgPath := "", byteOffset := 0 }, { name := "Cells", type := 5, offset := 1, embedded := false, tag := "", pkgPath := "", byteOffset := 1 }, { name := "Acts", type := 22, offset := 2, embedded := false, tag := "", pkgPath := "", byteOffset := 8 }]), 3, 32, (.agg #[.int .u8 0, .int .u8 0, .slice none 0 0])⟩
theorem to24 : EntryOk Try.prog 24 ti24 := ⟨Try.underlying24, by kernel_rfl⟩
def ti25 : TI := ⟨(.func #[] #[4] false), 1, 8, (.nilFunc)⟩
theorem to25 : EntryOk Try.prog 25 ti25 := ⟨Try.underlying25, by kernel_rfl⟩
def ti26 : TI := ⟨(.slice 44), 1, 24, (.slice none 0 0)⟩
theorem to26 : EntryOk Try.prog 26 ti26 := ⟨Try.underlying26, by kernel_rfl⟩
def ti27 : TI := ⟨(.slice 46), 1, 24, (.slice none 0 0)⟩
theorem to27 : EntryOk Try.prog 27 ti27 := ⟨Try.underlying27, by kernel_rfl⟩
def ti28 : TI := ⟨(.struct #[{ name := "Vars", type := 3, offset := 0, embedded := false, tag := "", pkgPath := "", byteOffset := 0 }, { name := "Cells", type := 26, offset := 1, embedded := false, tag := "", pkgPath := "", byteOffset := 8 }, { name := "Cons", type := 27, offset := 2, embedded := false, tag := "", pkgPath := "", byteOffset := 32 }]), 3, 56, (.agg #[.int .i64 0, .slice none 0 0, .slice none 0 0])⟩
theorem to28 : EntryOk Try.prog 28 ti28 := ⟨Try.underlying28, by kernel_rfl⟩
def ti29 : TI := ⟨(.struct #[{ name := "Vars", type := 3, offset := 0, embedded := false, tag := "", pkgPath := "", byteOffset := 0 }, { name := "Cells", type := 26, offset := 1, embedded := false, tag := "", pkgPath := "", byteOffset := 8 }, { name := "Cons", type := 27, offset := 2, embedded := false, tag := "", pkgPath := "", byteOffset := 32 }]), 3, 56, (.agg #[.int .i64 0, .slice none 0 0, .slice none 0 0])⟩
theorem to29 : EntryOk Try.prog 29 ti29 := ⟨Try.underlying29, by kernel_rfl⟩
def ti30 : TI := ⟨(.func #[24] #[29] false), 1, 8, (.nilFunc)⟩
theorem to30 : EntryOk Try.prog 30 ti30 := ⟨Try.underlying30, by kernel_rfl⟩
def ti31 : TI := ⟨(.slice 3), 1, 24, (.slice none 0 0)⟩
theorem to31 : EntryOk Try.prog 31 ti31 := ⟨Try.underlying31, by kernel_rfl⟩
def ti32 : TI := ⟨(.func #[36, 3] #[31] false), 1, 8, (.nilFunc)⟩
theorem to32 : EntryOk Try.prog 32 ti32 := ⟨Try.underlying32, by kernel_rfl⟩
def ti33 : TI := ⟨(.slice 31), 1, 24, (.slice none 0 0)⟩
theorem to33 : EntryOk Try.prog 33 ti33 := ⟨Try.underlying33, by kernel_rfl⟩
def ti34 : TI := ⟨(.slice 4), 1, 24, (.slice none 0 0)⟩
theorem to34 : EntryOk Try.prog 34 ti34 := ⟨Try.underlying34, by kernel_rfl⟩
def ti35 : TI := ⟨(.struct #[{ name := "Vars", type := 3, offset := 0, embedded := false, tag := "", pkgPath := "", byteOffset := 0 }, { name := "Into", type := 33, offset := 1, embedded := false, tag := "", pkgPath := "", byteOffset := 8 }, { name := "Bases", type := 33, offset := 2, embedded := false, tag := "", pkgPath := "", byteOffset := 32 }, { name := "Loose", type := 34, offset := 3, embedded := false, tag := "", pkgPath := "", byteOffset := 56 }]), 4, 80, (.agg #[.int .i64 0, .slice none 0 0, .slice none 0 0, .slice none 0 0])⟩
theorem to35 : EntryOk Try.prog 35 ti35 := ⟨Try.underlying35, by kernel_rfl⟩
def ti36 : TI := ⟨(.struct #[{ name := "Vars", type := 3, offset := 0, embedded := false, tag := "", pkgPath := "", byteOffset := 0 }, { name := "Into", type := 33, offset := 1, embedded := false, tag := "", pkgPath := "", byteOffset := 8 }, { name := "Bases", type := 33, offset := 2, embedded := false, tag := "", pkgPath := "", byteOffset := 32 }, { name := "Loose", type := 34, offset := 3, embedded := false, tag := "", pkgPath := "", byteOffset := 56 }]), 4, 80, (.agg #[.int .i64 0, .slice none 0 0, .slice none 0 0, .slice none 0 0])⟩
theorem to36 : EntryOk Try.prog 36 ti36 := ⟨Try.underlying36, by kernel_rfl⟩
def ti37 : TI := ⟨(.func #[29] #[36] false), 1, 8, (.nilFunc)⟩
theorem to37 : EntryOk Try.prog 37 ti37 := ⟨Try.underlying37, by kernel_rfl⟩
def ti38 : TI := ⟨(.slice 34), 1, 24, (.slice none 0 0)⟩
theorem to38 : EntryOk Try.prog 38 ti38 := ⟨Try.underlying38, by kernel_rfl⟩
def ti39 : TI := ⟨(.func #[29] #[38] false), 1, 8, (.nilFunc)⟩
theorem to39 : EntryOk Try.prog 39 ti39 := ⟨Try.underlying39, by kernel_rfl⟩
def ti40 : TI := ⟨(.func #[34] #[4] false), 1, 8, (.nilFunc)⟩
theorem to40 : EntryOk Try.prog 40 ti40 := ⟨Try.underlying40, by kernel_rfl⟩
def ti41 : TI := ⟨(.func #[34, 34] #[4] false), 1, 8, (.nilFunc)⟩
theorem to41 : EntryOk Try.prog 41 ti41 := ⟨Try.underlying41, by kernel_rfl⟩
def ti42 : TI := ⟨(.func #[24] #[4] false), 1, 8, (.nilFunc)⟩
theorem to42 : EntryOk Try.prog 42 ti42 := ⟨Try.underlying42, by kernel_rfl⟩
def ti43 : TI := ⟨(.struct #[{ name := "Fun", type := 4, offset := 0, embedded := false, tag := "", pkgPath := "", byteOffset := 0 }, { name := "Var", type := 3, offset := 1, embedded := false, tag := "", pkgPath := "", byteOffset := 8 }, { name := "Args", type := 31, offset := 2, embedded := false, tag := "", pkgPath := "", byteOffset := 16 }]), 3, 40, (.agg #[.bool false, .int .i64 0, .slice none 0 0])⟩
theorem to43 : EntryOk Try.prog 43 ti43 := ⟨Try.underlying43, by kernel_rfl⟩
def ti44 : TI := ⟨(.struct #[{ name := "Fun", type := 4, offset := 0, embedded := false, tag := "", pkgPath := "", byteOffset := 0 }, { name := "Var", type := 3, offset := 1, embedded := false, tag := "", pkgPath := "", byteOffset := 8 }, { name := "Args", type := 31, offset := 2, embedded := false, tag := "", pkgPath := "", byteOffset := 16 }]), 3, 40, (.agg #[.bool false, .int .i64 0, .slice none 0 0])⟩
theorem to44 : EntryOk Try.prog 44 ti44 := ⟨Try.underlying44, by kernel_rfl⟩
def ti45 : TI := ⟨(.struct #[{ name := "Kind", type := 5, offset := 0, embedded := false, tag := "", pkgPath := "", byteOffset := 0 }, { name := "A", type := 3, offset := 1, embedded := false, tag := "", pkgPath := "", byteOffset := 8 }, { name := "B", type := 3, offset := 2, embedded := false, tag := "", pkgPath := "", byteOffset := 16 }, { name := "Args", type := 31, offset := 3, embedded := false, tag := "", pkgPath := "", byteOffset := 24 }]), 4, 48, (.agg #[.int .u8 0, .int .i64 0, .int .i64 0, .slice none 0 0])⟩
theorem to45 : EntryOk Try.prog 45 ti45 := ⟨Try.underlying45, by kernel_rfl⟩
def ti46 : TI := ⟨(.struct #[{ name := "Kind", type := 5, offset := 0, embedded := false, tag := "", pkgPath := "", byteOffset := 0 }, { name := "A", type := 3, offset := 1, embedded := false, tag := "", pkgPath := "", byteOffset := 8 }, { name := "B", type := 3, offset := 2, embedded := false, tag := "", pkgPath := "", byteOffset := 16 }, { name := "Args", type := 31, offset := 3, embedded := false, tag := "", pkgPath := "", byteOffset := 24 }]), 4, 48, (.agg #[.int .u8 0, .int .i64 0, .int .i64 0, .slice none 0 0])⟩
theorem to46 : EntryOk Try.prog 46 ti46 := ⟨Try.underlying46, by kernel_rfl⟩
def ti47 : TI := ⟨(.func #[5, 5] #[4] false), 1, 8, (.nilFunc)⟩
theorem to47 : EntryOk Try.prog 47 ti47 := ⟨Try.underlying47, by kernel_rfl⟩
def ti48 : TI := ⟨(.slice 50), 1, 24, (.slice none 0 0)⟩
theorem to48 : EntryOk Try.prog 48 ti48 := ⟨Try.underlying48, by kernel_rfl⟩
def ti49 : TI := ⟨(.func #[36, 3] #[48] false), 1, 8, (.nilFunc)⟩
theorem to49 : EntryOk Try.prog 49 ti49 := ⟨Try.underlying49, by kernel_rfl⟩
def ti50 : TI := ⟨(.pointer 76), 1, 8, (.pointer none)⟩
theorem to50 : EntryOk Try.prog 50 ti50 := ⟨Try.underlying50, by kernel_rfl⟩
def ti51 : TI := ⟨(.func #[3] #[4] false), 1, 8, (.nilFunc)⟩
theorem to51 : EntryOk Try.prog 51 ti51 := ⟨Try.underlying51, by kernel_rfl⟩
def ti52 : TI := ⟨(.func #[] #[3] false), 1, 8, (.nilFunc)⟩
theorem to52 : EntryOk Try.prog 52 ti52 := ⟨Try.underlying52, by kernel_rfl⟩
def ti53 : TI := ⟨(.func #[36] #[31] false), 1, 8, (.nilFunc)⟩
theorem to53 : EntryOk Try.prog 53 ti53 := ⟨Try.underlying53, by kernel_rfl⟩
def ti54 : TI := ⟨(.func #[29, 5] #[31] false), 1, 8, (.nilFunc)⟩
theorem to54 : EntryOk Try.prog 54 ti54 := ⟨Try.underlying54, by kernel_rfl⟩
def ti55 : TI := ⟨(.func #[24, 5] #[4] false), 1, 8, (.nilFunc)⟩
theorem to55 : EntryOk Try.prog 55 ti55 := ⟨Try.underlying55, by kernel_rfl⟩
def ti56 : TI := ⟨(.int .i64), 1, 8, (.int .i64 0)⟩
theorem to56 : EntryOk Try.prog 56 ti56 := ⟨Try.underlying56, by kernel_rfl⟩
def ti58 : TI := ⟨(.func #[29, 5] #[29, 31, 56] false), 1, 8, (.nilFunc)⟩
theorem to58 : EntryOk Try.prog 58 ti58 := ⟨Try.underlying58, by kernel_rfl⟩
def ti59 : TI := ⟨(.func #[29] #[4] false), 1, 8, (.nilFunc)⟩
theorem to59 : EntryOk Try.prog 59 ti59 := ⟨Try.underlying59, by kernel_rfl⟩
def ti60 : TI := ⟨(.func #[31, 31] #[4] false), 1, 8, (.nilFunc)⟩
theorem to60 : EntryOk Try.prog 60 ti60 := ⟨Try.underlying60, by kernel_rfl⟩
def ti61 : TI := ⟨(.func #[29, 29] #[4] false), 1, 8, (.nilFunc)⟩
theorem to61 : EntryOk Try.prog 61 ti61 := ⟨Try.underlying61, by kernel_rfl⟩
def ti62 : TI := ⟨(.func #[29] #[33] false), 1, 8, (.nilFunc)⟩
theorem to62 : EntryOk Try.prog 62 ti62 := ⟨Try.underlying62, by kernel_rfl⟩
def ti63 : TI := ⟨(.func #[29, 5] #[4] false), 1, 8, (.nilFunc)⟩
theorem to63 : EntryOk Try.prog 63 ti63 := ⟨Try.underlying63, by kernel_rfl⟩
def ti64 : TI := ⟨(.func #[24, 5, 5] #[4] false), 1, 8, (.nilFunc)⟩
theorem to64 : EntryOk Try.prog 64 ti64 := ⟨Try.underlying64, by kernel_rfl⟩
def ti65 : TI := ⟨(.struct #[{ name := "K", type := 5, offset := 0, embedded := false, tag := "", pkgPath := "", byteOffset := 0 }, { name := "A", type := 5, offset := 1, embedded := false, tag := "", pkgPath := "", byteOffset := 1 }, { name := "B", type := 5, offset := 2, embedded := false, tag := "", pkgPath := "", byteOffset := 2 }, { name := "C", type := 5, offset := 3, embedded := false, tag := "", pkgPath := "", byteOffset := 3 }]), 4, 4, (.agg #[.int .u8 0, .int .u8 0, .int .u8 0, .int .u8 0])⟩
theorem to65 : EntryOk Try.prog 65 ti65 := ⟨Try.underlying65, by kernel_rfl⟩
def ti66 : TI := ⟨(.struct #[{ name := "K", type := 5, offset := 0, embedded := false, tag := "", pkgPath := "", byteOffset := 0 }, { name := "A", type := 5, offset := 1, embedded := false, tag := "", pkgPath := "", byteOffset := 1 }, { name := "B", type := 5, offset := 2, embedded := false, tag := "", pkgPath := "", byteOffset := 2 }, { name := "C", type := 5, offset := 3, embedded := false, tag := "", pkgPath := "", byteOffset := 3 }]), 4, 4, (.agg #[.int .u8 0, .int .u8 0, .int .u8 0, .int .u8 0])⟩
theorem to66 : EntryOk Try.prog 66 ti66 := ⟨Try.underlying66, by kernel_rfl⟩
def ti67 : TI := ⟨(.map 9 3), 1, 8, (.map none)⟩
theorem to67 : EntryOk Try.prog 67 ti67 := ⟨Try.underlying67, by kernel_rfl⟩
def ti68 : TI := ⟨(.func #[] #[9] false), 1, 8, (.nilFunc)⟩
theorem to68 : EntryOk Try.prog 68 ti68 := ⟨Try.underlying68, by kernel_rfl⟩
def ti70 : TI := ⟨(.func #[29] #[34] false), 1, 8, (.nilFunc)⟩
theorem to70 : EntryOk Try.prog 70 ti70 := ⟨Try.underlying70, by kernel_rfl⟩
def ti71 : TI := ⟨(.func #[29, 3] #[4] false), 1, 8, (.nilFunc)⟩
theorem to71 : EntryOk Try.prog 71 ti71 := ⟨Try.underlying71, by kernel_rfl⟩
def ti73 : TI := ⟨(.func #[33] #[33, 31] false), 1, 8, (.nilFunc)⟩
theorem to73 : EntryOk Try.prog 73 ti73 := ⟨Try.underlying73, by kernel_rfl⟩
def ti74 : TI := ⟨(.slice 82), 1, 24, (.slice none 0 0)⟩
theorem to74 : EntryOk Try.prog 74 ti74 := ⟨Try.underlying74, by kernel_rfl⟩
def ti75 : TI := ⟨(.struct #[{ name := "l", type := 74, offset := 0, embedded := false, tag := "", pkgPath := "weathervane/pile", byteOffset := 0 }]), 1, 24, (.agg #[.slice none 0 0])⟩
theorem to75 : EntryOk Try.prog 75 ti75 := ⟨Try.underlying75, by kernel_rfl⟩
def ti76 : TI := ⟨(.struct #[{ name := "l", type := 74, offset := 0, embedded := false, tag := "", pkgPath := "weathervane/pile", byteOffset := 0 }]), 1, 24, (.agg #[.slice none 0 0])⟩
theorem to76 : EntryOk Try.prog 76 ti76 := ⟨Try.underlying76, by kernel_rfl⟩
def ti77 : TI := ⟨(.func #[50] #[4] false), 1, 8, (.nilFunc)⟩
theorem to77 : EntryOk Try.prog 77 ti77 := ⟨Try.underlying77, by kernel_rfl⟩
def ti78 : TI := ⟨(.func #[31] #[50] true), 1, 8, (.nilFunc)⟩
theorem to78 : EntryOk Try.prog 78 ti78 := ⟨Try.underlying78, by kernel_rfl⟩
def ti79 : TI := ⟨(.func #[3] #[3, 4] false), 1, 8, (.nilFunc)⟩
theorem to79 : EntryOk Try.prog 79 ti79 := ⟨Try.underlying79, by kernel_rfl⟩
def ti80 : TI := ⟨(.int .u64), 1, 8, (.int .u64 0)⟩
theorem to80 : EntryOk Try.prog 80 ti80 := ⟨Try.underlying80, by kernel_rfl⟩
def ti81 : TI := ⟨(.struct #[{ name := "at", type := 3, offset := 0, embedded := false, tag := "", pkgPath := "weathervane/pile", byteOffset := 0 }, { name := "w", type := 80, offset := 1, embedded := false, tag := "", pkgPath := "weathervane/pile", byteOffset := 8 }]), 2, 16, (.agg #[.int .i64 0, .int .u64 0])⟩
theorem to81 : EntryOk Try.prog 81 ti81 := ⟨Try.underlying81, by kernel_rfl⟩
def ti82 : TI := ⟨(.struct #[{ name := "at", type := 3, offset := 0, embedded := false, tag := "", pkgPath := "weathervane/pile", byteOffset := 0 }, { name := "w", type := 80, offset := 1, embedded := false, tag := "", pkgPath := "weathervane/pile", byteOffset := 8 }]), 2, 16, (.agg #[.int .i64 0, .int .u64 0])⟩
theorem to82 : EntryOk Try.prog 82 ti82 := ⟨Try.underlying82, by kernel_rfl⟩
def ti83 : TI := ⟨(.func #[80] #[3] false), 1, 8, (.nilFunc)⟩
theorem to83 : EntryOk Try.prog 83 ti83 := ⟨Try.underlying83, by kernel_rfl⟩
def ti84 : TI := ⟨(.map 3 3), 1, 8, (.map none)⟩
theorem to84 : EntryOk Try.prog 84 ti84 := ⟨Try.underlying84, by kernel_rfl⟩
def ti85 : TI := ⟨(.map 3 4), 1, 8, (.map none)⟩
theorem to85 : EntryOk Try.prog 85 ti85 := ⟨Try.underlying85, by kernel_rfl⟩
def ti86 : TI := ⟨(.func #[85, 85, 4, 84, 52] #[3] false), 1, 8, (.nilFunc)⟩
theorem to86 : EntryOk Try.prog 86 ti86 := ⟨Try.underlying86, by kernel_rfl⟩
def ti88 : TI := ⟨(.func #[29, 31, 4] #[29, 31] false), 1, 8, (.nilFunc)⟩
theorem to88 : EntryOk Try.prog 88 ti88 := ⟨Try.underlying88, by kernel_rfl⟩
def ti89 : TI := ⟨(.func #[3, 3, 3] #[4] false), 1, 8, (.nilFunc)⟩
theorem to89 : EntryOk Try.prog 89 ti89 := ⟨Try.underlying89, by kernel_rfl⟩
def ti90 : TI := ⟨(.func #[29, 38] #[4] false), 1, 8, (.nilFunc)⟩
theorem to90 : EntryOk Try.prog 90 ti90 := ⟨Try.underlying90, by kernel_rfl⟩
def ti91 : TI := ⟨(.slice 5), 1, 24, (.slice none 0 0)⟩
theorem to91 : EntryOk Try.prog 91 ti91 := ⟨Try.underlying91, by kernel_rfl⟩
def ti92 : TI := ⟨(.func #[] #[74] false), 1, 8, (.nilFunc)⟩
theorem to92 : EntryOk Try.prog 92 ti92 := ⟨Try.underlying92, by kernel_rfl⟩
def ti93 : TI := ⟨(.func #[44, 3] #[4] false), 1, 8, (.nilFunc)⟩
theorem to93 : EntryOk Try.prog 93 ti93 := ⟨Try.underlying93, by kernel_rfl⟩
def ti94 : TI := ⟨(.func #[46, 3, 3] #[4] false), 1, 8, (.nilFunc)⟩
theorem to94 : EntryOk Try.prog 94 ti94 := ⟨Try.underlying94, by kernel_rfl⟩
def ti95 : TI := ⟨(.func #[3] #[] false), 1, 8, (.nilFunc)⟩
theorem to95 : EntryOk Try.prog 95 ti95 := ⟨Try.underlying95, by kernel_rfl⟩
def ti96 : TI := ⟨(.pointer 98), 1, 8, (.pointer none)⟩
theorem to96 : EntryOk Try.prog 96 ti96 := ⟨Try.underlying96, by kernel_rfl⟩
def ti97 : TI := ⟨(.struct #[{ name := "into", type := 33, offset := 0, embedded := false, tag := "", pkgPath := "weathervane/knot", byteOffset := 0 }, { name := "index", type := 31, offset := 1, embedded := false, tag := "", pkgPath := "weathervane/knot", byteOffset := 24 }, { name := "low", type := 31, offset := 2, embedded := false, tag := "", pkgPath := "weathervane/knot", byteOffset := 48 }, { name := "on", type := 34, offset := 3, embedded := false, tag := "", pkgPath := "weathervane/knot", byteOffset := 72 }, { name := "stack", type := 31, offset := 4, embedded := false, tag := "", pkgPath := "weathervane/knot", byteOffset := 96 }, { name := "of", type := 31, offset := 5, embedded := false, tag := "", pkgPath := "weathervane/knot", byteOffset := 120 }, { name := "n", type := 3, offset := 6, embedded := false, tag := "", pkgPath := "weathervane/knot", byteOffset := 144 }, { name := "knots", type := 33, offset := 7, embedded := false, tag := "", pkgPath := "weathervane/knot", byteOffset := 152 }]), 8, 176, (.agg #[.slice none 0 0, .slice none 0 0, .slice none 0 0, .slice none 0 0, .slice none 0 0, .slice none 0 0, .int .i64 0, .slice none 0 0])⟩
theorem to97 : EntryOk Try.prog 97 ti97 := ⟨Try.underlying97, by kernel_rfl⟩
def ti98 : TI := ⟨(.struct #[{ name := "into", type := 33, offset := 0, embedded := false, tag := "", pkgPath := "weathervane/knot", byteOffset := 0 }, { name := "index", type := 31, offset := 1, embedded := false, tag := "", pkgPath := "weathervane/knot", byteOffset := 24 }, { name := "low", type := 31, offset := 2, embedded := false, tag := "", pkgPath := "weathervane/knot", byteOffset := 48 }, { name := "on", type := 34, offset := 3, embedded := false, tag := "", pkgPath := "weathervane/knot", byteOffset := 72 }, { name := "stack", type := 31, offset := 4, embedded := false, tag := "", pkgPath := "weathervane/knot", byteOffset := 96 }, { name := "of", type := 31, offset := 5, embedded := false, tag := "", pkgPath := "weathervane/knot", byteOffset := 120 }, { name := "n", type := 3, offset := 6, embedded := false, tag := "", pkgPath := "weathervane/knot", byteOffset := 144 }, { name := "knots", type := 33, offset := 7, embedded := false, tag := "", pkgPath := "weathervane/knot", byteOffset := 152 }]), 8, 176, (.agg #[.slice none 0 0, .slice none 0 0, .slice none 0 0, .slice none 0 0, .slice none 0 0, .slice none 0 0, .int .i64 0, .slice none 0 0])⟩
theorem to98 : EntryOk Try.prog 98 ti98 := ⟨Try.underlying98, by kernel_rfl⟩
def ti99 : TI := ⟨(.func #[74, 3, 74] #[74] true), 1, 8, (.nilFunc)⟩
theorem to99 : EntryOk Try.prog 99 ti99 := ⟨Try.underlying99, by kernel_rfl⟩
def ti100 : TI := ⟨(.func #[74, 3, 101] #[3, 4] false), 1, 8, (.nilFunc)⟩
theorem to100 : EntryOk Try.prog 100 ti100 := ⟨Try.underlying100, by kernel_rfl⟩
def ti101 : TI := ⟨(.func #[82, 3] #[3] false), 1, 8, (.nilFunc)⟩
theorem to101 : EntryOk Try.prog 101 ti101 := ⟨Try.underlying101, by kernel_rfl⟩
def ti102 : TI := ⟨(.int .u64), 1, 8, (.int .u64 0)⟩
theorem to102 : EntryOk Try.prog 102 ti102 := ⟨Try.underlying102, by kernel_rfl⟩
def ti103 : TI := ⟨(.func #[3] #[3] false), 1, 8, (.nilFunc)⟩
theorem to103 : EntryOk Try.prog 103 ti103 := ⟨Try.underlying103, by kernel_rfl⟩
def ti104 : TI := ⟨(.func #[31] #[31] false), 1, 8, (.nilFunc)⟩
theorem to104 : EntryOk Try.prog 104 ti104 := ⟨Try.underlying104, by kernel_rfl⟩
def ti105 : TI := ⟨(.map 9 4), 1, 8, (.map none)⟩
theorem to105 : EntryOk Try.prog 105 ti105 := ⟨Try.underlying105, by kernel_rfl⟩
def ti106 : TI := ⟨(.func #[46] #[9] false), 1, 8, (.nilFunc)⟩
theorem to106 : EntryOk Try.prog 106 ti106 := ⟨Try.underlying106, by kernel_rfl⟩
def ti107 : TI := ⟨(.func #[46] #[4] false), 1, 8, (.nilFunc)⟩
theorem to107 : EntryOk Try.prog 107 ti107 := ⟨Try.underlying107, by kernel_rfl⟩
def ti108 : TI := ⟨(.func #[38, 3, 3] #[4] false), 1, 8, (.nilFunc)⟩
theorem to108 : EntryOk Try.prog 108 ti108 := ⟨Try.underlying108, by kernel_rfl⟩
def ti109 : TI := ⟨(.struct #[{ name := "node", type := 3, offset := 0, embedded := false, tag := "", pkgPath := "weathervane/knot", byteOffset := 0 }, { name := "next", type := 3, offset := 1, embedded := false, tag := "", pkgPath := "weathervane/knot", byteOffset := 8 }]), 2, 16, (.agg #[.int .i64 0, .int .i64 0])⟩
theorem to109 : EntryOk Try.prog 109 ti109 := ⟨Try.underlying109, by kernel_rfl⟩
def ti110 : TI := ⟨(.struct #[{ name := "node", type := 3, offset := 0, embedded := false, tag := "", pkgPath := "weathervane/knot", byteOffset := 0 }, { name := "next", type := 3, offset := 1, embedded := false, tag := "", pkgPath := "weathervane/knot", byteOffset := 8 }]), 2, 16, (.agg #[.int .i64 0, .int .i64 0])⟩
theorem to110 : EntryOk Try.prog 110 ti110 := ⟨Try.underlying110, by kernel_rfl⟩
def ti111 : TI := ⟨(.func #[3] #[110] false), 1, 8, (.nilFunc)⟩
theorem to111 : EntryOk Try.prog 111 ti111 := ⟨Try.underlying111, by kernel_rfl⟩
def ti112 : TI := ⟨(.slice 110), 1, 24, (.slice none 0 0)⟩
theorem to112 : EntryOk Try.prog 112 ti112 := ⟨Try.underlying112, by kernel_rfl⟩
def ti113 : TI := ⟨(.pointer 110), 1, 8, (.pointer none)⟩
theorem to113 : EntryOk Try.prog 113 ti113 := ⟨Try.underlying113, by kernel_rfl⟩
def ti114 : TI := ⟨(.func #[74, 74] #[4] false), 1, 8, (.nilFunc)⟩
theorem to114 : EntryOk Try.prog 114 ti114 := ⟨Try.underlying114, by kernel_rfl⟩
def ti115 : TI := ⟨(.func #[74, 3] #[] false), 1, 8, (.nilFunc)⟩
theorem to115 : EntryOk Try.prog 115 ti115 := ⟨Try.underlying115, by kernel_rfl⟩
def ti116 : TI := ⟨(.func #[31] #[] false), 1, 8, (.nilFunc)⟩
theorem to116 : EntryOk Try.prog 116 ti116 := ⟨Try.underlying116, by kernel_rfl⟩
def ti117 : TI := ⟨(.func #[31, 3, 3, 3] #[] false), 1, 8, (.nilFunc)⟩
theorem to117 : EntryOk Try.prog 117 ti117 := ⟨Try.underlying117, by kernel_rfl⟩
def ti118 : TI := ⟨(.func #[102] #[3] false), 1, 8, (.nilFunc)⟩
theorem to118 : EntryOk Try.prog 118 ti118 := ⟨Try.underlying118, by kernel_rfl⟩
def ti119 : TI := ⟨(.func #[74] #[] false), 1, 8, (.nilFunc)⟩
theorem to119 : EntryOk Try.prog 119 ti119 := ⟨Try.underlying119, by kernel_rfl⟩
def ti120 : TI := ⟨(.func #[31, 3, 3] #[] false), 1, 8, (.nilFunc)⟩
theorem to120 : EntryOk Try.prog 120 ti120 := ⟨Try.underlying120, by kernel_rfl⟩
def ti121 : TI := ⟨(.int .i64), 1, 8, (.int .i64 0)⟩
theorem to121 : EntryOk Try.prog 121 ti121 := ⟨Try.underlying121, by kernel_rfl⟩
def ti123 : TI := ⟨(.func #[31, 3, 3] #[3, 121] false), 1, 8, (.nilFunc)⟩
theorem to123 : EntryOk Try.prog 123 ti123 := ⟨Try.underlying123, by kernel_rfl⟩
def ti124 : TI := ⟨(.func #[31, 3, 3] #[4] false), 1, 8, (.nilFunc)⟩
theorem to124 : EntryOk Try.prog 124 ti124 := ⟨Try.underlying124, by kernel_rfl⟩
def ti125 : TI := ⟨(.func #[3, 3] #[4] false), 1, 8, (.nilFunc)⟩
theorem to125 : EntryOk Try.prog 125 ti125 := ⟨Try.underlying125, by kernel_rfl⟩
def ti126 : TI := ⟨(.func #[31, 3, 3, 3] #[3] false), 1, 8, (.nilFunc)⟩
theorem to126 : EntryOk Try.prog 126 ti126 := ⟨Try.underlying126, by kernel_rfl⟩
def ti127 : TI := ⟨(.func #[31, 3, 3, 3] #[3, 4] false), 1, 8, (.nilFunc)⟩
theorem to127 : EntryOk Try.prog 127 ti127 := ⟨Try.underlying127, by kernel_rfl⟩
def ti128 : TI := ⟨(.func #[129] #[3] false), 1, 8, (.nilFunc)⟩
theorem to128 : EntryOk Try.prog 128 ti128 := ⟨Try.underlying128, by kernel_rfl⟩
def ti129 : TI := ⟨(.int .u32), 1, 4, (.int .u32 0)⟩
theorem to129 : EntryOk Try.prog 129 ti129 := ⟨Try.underlying129, by kernel_rfl⟩
def ti130 : TI := ⟨(.int .u64), 1, 8, (.int .u64 0)⟩
theorem to130 : EntryOk Try.prog 130 ti130 := ⟨Try.underlying130, by kernel_rfl⟩
def ti131 : TI := ⟨(.func #[3] #[102] false), 1, 8, (.nilFunc)⟩
theorem to131 : EntryOk Try.prog 131 ti131 := ⟨Try.underlying131, by kernel_rfl⟩
def ti132 : TI := ⟨(.func #[] #[80] false), 1, 8, (.nilFunc)⟩
theorem to132 : EntryOk Try.prog 132 ti132 := ⟨Try.underlying132, by kernel_rfl⟩
def ti133 : TI := ⟨(.func #[31, 3, 134] #[3] false), 1, 8, (.nilFunc)⟩
theorem to133 : EntryOk Try.prog 133 ti133 := ⟨Try.underlying133, by kernel_rfl⟩
def ti134 : TI := ⟨(.pointer 3), 1, 8, (.pointer none)⟩
theorem to134 : EntryOk Try.prog 134 ti134 := ⟨Try.underlying134, by kernel_rfl⟩
def ti135 : TI := ⟨(.func #[31, 3, 3, 3, 134] #[3] false), 1, 8, (.nilFunc)⟩
theorem to135 : EntryOk Try.prog 135 ti135 := ⟨Try.underlying135, by kernel_rfl⟩
def ti136 : TI := ⟨(.pointer 130), 1, 8, (.pointer none)⟩
theorem to136 : EntryOk Try.prog 136 ti136 := ⟨Try.underlying136, by kernel_rfl⟩
def ti138 : TI := ⟨(.func #[31, 3, 3, 134] #[3, 3] false), 1, 8, (.nilFunc)⟩
theorem to138 : EntryOk Try.prog 138 ti138 := ⟨Try.underlying138, by kernel_rfl⟩
def ti141 : TI := ⟨(.array 0 16), 0, 0, (.agg #[])⟩
theorem to141 : EntryOk Try.prog 141 ti141 := ⟨Try.underlying141, by kernel_rfl⟩
def ti144 : TI := ⟨(.int .u8), 1, 1, (.int .u8 0)⟩
theorem to144 : EntryOk Try.prog 144 ti144 := ⟨Try.underlying144, by kernel_rfl⟩
def ti145 : TI := ⟨(.int .u8), 1, 1, (.int .u8 0)⟩
theorem to145 : EntryOk Try.prog 145 ti145 := ⟨Try.underlying145, by kernel_rfl⟩
def ti146 : TI := ⟨(.func #[152, 152] #[4] false), 1, 8, (.nilFunc)⟩
theorem to146 : EntryOk Try.prog 146 ti146 := ⟨Try.underlying146, by kernel_rfl⟩
def ti147 : TI := ⟨(.pointer 5), 1, 8, (.pointer none)⟩
theorem to147 : EntryOk Try.prog 147 ti147 := ⟨Try.underlying147, by kernel_rfl⟩
def ti148 : TI := ⟨(.int .i32), 1, 4, (.int .i32 0)⟩
theorem to148 : EntryOk Try.prog 148 ti148 := ⟨Try.underlying148, by kernel_rfl⟩
def ti149 : TI := ⟨(.int .i32), 1, 4, (.int .i32 0)⟩
theorem to149 : EntryOk Try.prog 149 ti149 := ⟨Try.underlying149, by kernel_rfl⟩
def ti150 : TI := ⟨(.struct #[{ name := "Size_", type := 12, offset := 0, embedded := false, tag := "", pkgPath := "", byteOffset := 0 }, { name := "PtrBytes", type := 12, offset := 1, embedded := false, tag := "", pkgPath := "", byteOffset := 8 }, { name := "Hash", type := 129, offset := 2, embedded := false, tag := "", pkgPath := "", byteOffset := 16 }, { name := "TFlag", type := 144, offset := 3, embedded := false, tag := "", pkgPath := "", byteOffset := 20 }, { name := "Align_", type := 5, offset := 4, embedded := false, tag := "", pkgPath := "", byteOffset := 21 }, { name := "FieldAlign_", type := 5, offset := 5, embedded := false, tag := "", pkgPath := "", byteOffset := 22 }, { name := "Kind_", type := 145, offset := 6, embedded := false, tag := "", pkgPath := "", byteOffset := 23 }, { name := "Equal", type := 146, offset := 7, embedded := false, tag := "", pkgPath := "", byteOffset := 24 }, { name := "GCData", type := 147, offset := 8, embedded := false, tag := "", pkgPath := "", byteOffset := 32 }, { name := "Str", type := 148, offset := 9, embedded := false, tag := "", pkgPath := "", byteOffset := 40 }, { name := "PtrToThis", type := 149, offset := 10, embedded := false, tag := "", pkgPath := "", byteOffset := 44 }]), 11, 48, (.agg #[.int .u64 0, .int .u64 0, .int .u32 0, .int .u8 0, .int .u8 0, .int .u8 0, .int .u8 0, .nilFunc, .pointer none, .int .i32 0, .int .i32 0])⟩
theorem to150 : EntryOk Try.prog 150 ti150 := ⟨Try.underlying150, by kernel_rfl⟩
def ti151 : TI := ⟨(.struct #[{ name := "Size_", type := 12, offset := 0, embedded := false, tag := "", pkgPath := "", byteOffset := 0 }, { name := "PtrBytes", type := 12, offset := 1, embedded := false, tag := "", pkgPath := "", byteOffset := 8 }, { name := "Hash", type := 129, offset := 2, embedded := false, tag := "", pkgPath := "", byteOffset := 16 }, { name := "TFlag", type := 144, offset := 3, embedded := false, tag := "", pkgPath := "", byteOffset := 20 }, { name := "Align_", type := 5, offset := 4, embedded := false, tag := "", pkgPath := "", byteOffset := 21 }, { name := "FieldAlign_", type := 5, offset := 5, embedded := false, tag := "", pkgPath := "", byteOffset := 22 }, { name := "Kind_", type := 145, offset := 6, embedded := false, tag := "", pkgPath := "", byteOffset := 23 }, { name := "Equal", type := 146, offset := 7, embedded := false, tag := "", pkgPath := "", byteOffset := 24 }, { name := "GCData", type := 147, offset := 8, embedded := false, tag := "", pkgPath := "", byteOffset := 32 }, { name := "Str", type := 148, offset := 9, embedded := false, tag := "", pkgPath := "", byteOffset := 40 }, { name := "PtrToThis", type := 149, offset := 10, embedded := false, tag := "", pkgPath := "", byteOffset := 44 }]), 11, 48, (.agg #[.int .u64 0, .int .u64 0, .int .u32 0, .int .u8 0, .int .u8 0, .int .u8 0, .int .u8 0, .nilFunc, .pointer none, .int .i32 0, .int .i32 0])⟩
theorem to151 : EntryOk Try.prog 151 ti151 := ⟨Try.underlying151, by kernel_rfl⟩
def tab : Nat → Option TI := lookT (.node (.node (.node (.node (.node (.node (.node (.node .leaf 1 ti1 .leaf) 2 ti2 .leaf) 3 ti3 (.node .leaf 4 ti4 .leaf)) 5 ti5 (.node (.node .leaf 6 ti6 .leaf) 9 ti9 (.node .leaf 10 ti10 .leaf))) 11 ti11 (.node (.node (.node .leaf 12 ti12 .leaf) 15 ti15 (.node .leaf 16 ti16 .leaf)) 17 ti17 (.node (.node .leaf 21 ti21 .leaf) 22 ti22 (.node .leaf 23 ti23 .leaf)))) 24 ti24 (.node (.node (.node (.node (.node .leaf 25 ti25 .leaf) 26 ti26 .leaf) 27 ti27 (.node .leaf 28 ti28 .leaf)) 29 ti29 (.node (.node .leaf 30 ti30 .leaf) 31 ti31 (.node .leaf 32 ti32 .leaf))) 33 ti33 (.node (.node (.node .leaf 34 ti34 .leaf) 35 ti35 (.node .leaf 36 ti36 .leaf)) 37 ti37 (.node (.node .leaf 38 ti38 .leaf) 39 ti39 (.node .leaf 40 ti40 .leaf))))) 41 ti41 (.node (.node (.node (.node (.node (.node .leaf 42 ti42 .leaf) 43 ti43 .leaf) 44 ti44 (.node .leaf 45 ti45 .leaf)) 46 ti46 (.node (.node .leaf 47 ti47 .leaf) 48 ti48 (.node .leaf 49 ti49 .leaf))) 50 ti50 (.node (.node (.node .leaf 51 ti51 .leaf) 52 ti52 (.node .leaf 53 ti53 .leaf)) 54 ti54 (.node (.node .leaf 55 ti55 .leaf) 56 ti56 (.node .leaf 58 ti58 .leaf)))) 59 ti59 (.node (.node (.node (.node (.node .leaf 60 ti60 .leaf) 61 ti61 .leaf) 62 ti62 (.node .leaf 63 ti63 .leaf)) 64 ti64 (.node (.node .leaf 65 ti65 .leaf) 66 ti66 (.node .leaf 67 ti67 .leaf))) 68 ti68 (.node (.node (.node .leaf 70 ti70 .leaf) 71 ti71 (.node .leaf 73 ti73 .leaf)) 74 ti74 (.node (.node .leaf 75 ti75 .leaf) 76 ti76 (.node .leaf 77 ti77 .leaf)))))) 78 ti78 (.node (.node (.node (.node (.node (.node (.node .leaf 79 ti79 .leaf) 80 ti80 .leaf) 81 ti81 (.node .leaf 82 ti82 .leaf)) 83 ti83 (.node (.node .leaf 84 ti84 .leaf) 85 ti85 (.node .leaf 86 ti86 .leaf))) 88 ti88 (.node (.node (.node .leaf 89 ti89 .leaf) 90 ti90 (.node .leaf 91 ti91 .leaf)) 92 ti92 (.node (.node .leaf 93 ti93 .leaf) 94 ti94 (.node .leaf 95 ti95 .leaf)))) 96 ti96 (.node (.node (.node (.node (.node .leaf 97 ti97 .leaf) 98 ti98 .leaf) 99 ti99 (.node .leaf 100 ti100 .leaf)) 101 ti101 (.node (.node .leaf 102 ti102 .leaf) 103 ti103 (.node .leaf 104 ti104 .leaf))) 105 ti105 (.node (.node (.node .leaf 106 ti106 .leaf) 107 ti107 (.node .leaf 108 ti108 .leaf)) 109 ti109 (.node (.node .leaf 110 ti110 .leaf) 111 ti111 (.node .leaf 112 ti112 .leaf))))) 113 ti113 (.node (.node (.node (.node (.node (.node .leaf 114 ti114 .leaf) 115 ti115 .leaf) 116 ti116 (.node .leaf 117 ti117 .leaf)) 118 ti118 (.node (.node .leaf 119 ti119 .leaf) 120 ti120 (.node .leaf 121 ti121 .leaf))) 123 ti123 (.node (.node (.node .leaf 124 ti124 .leaf) 125 ti125 (.node .leaf 126 ti126 .leaf)) 127 ti127 (.node (.node .leaf 128 ti128 .leaf) 129 ti129 (.node .leaf 130 ti130 .leaf)))) 131 ti131 (.node (.node (.node (.node .leaf 132 ti132 .leaf) 133 ti133 (.node .leaf 134 ti134 .leaf)) 135 ti135 (.node (.node .leaf 136 ti136 .leaf) 138 ti138 (.node .leaf 141 ti141 .leaf))) 144 ti144 (.node (.node (.node .leaf 145 ti145 .leaf) 146 ti146 (.node .leaf 147 ti147 .leaf)) 148 ti148 (.node (.node .leaf 149 ti149 .leaf) 150 ti150 (.node .leaf 151 ti151 .leaf)))))))
theorem tabOk : TabOk Try.prog tab := tabOk_of ⟨⟨⟨⟨⟨⟨⟨⟨trivial, to1, trivial⟩, to2, trivial⟩, to3, ⟨trivial, to4, trivial⟩⟩, to5, ⟨⟨trivial, to6, trivial⟩, to9, ⟨trivial, to10, trivial⟩⟩⟩, to11, ⟨⟨⟨trivial, to12, trivial⟩, to15, ⟨trivial, to16, trivial⟩⟩, to17, ⟨⟨trivial, to21, trivial⟩, to22, ⟨trivial, to23, trivial⟩⟩⟩⟩, to24, ⟨⟨⟨⟨⟨trivial, to25, trivial⟩, to26, trivial⟩, to27, ⟨trivial, to28, trivial⟩⟩, to29, ⟨⟨trivial, to30, trivial⟩, to31, ⟨trivial, to32, trivial⟩⟩⟩, to33, ⟨⟨⟨trivial, to34, trivial⟩, to35, ⟨trivial, to36, trivial⟩⟩, to37, ⟨⟨trivial, to38, trivial⟩, to39, ⟨trivial, to40, trivial⟩⟩⟩⟩⟩, to41, ⟨⟨⟨⟨⟨⟨trivial, to42, trivial⟩, to43, trivial⟩, to44, ⟨trivial, to45, trivial⟩⟩, to46, ⟨⟨trivial, to47, trivial⟩, to48, ⟨trivial, to49, trivial⟩⟩⟩, to50, ⟨⟨⟨trivial, to51, trivial⟩, to52, ⟨trivial, to53, trivial⟩⟩, to54, ⟨⟨trivial, to55, trivial⟩, to56, ⟨trivial, to58, trivial⟩⟩⟩⟩, to59, ⟨⟨⟨⟨⟨trivial, to60, trivial⟩, to61, trivial⟩, to62, ⟨trivial, to63, trivial⟩⟩, to64, ⟨⟨trivial, to65, trivial⟩, to66, ⟨trivial, to67, trivial⟩⟩⟩, to68, ⟨⟨⟨trivial, to70, trivial⟩, to71, ⟨trivial, to73, trivial⟩⟩, to74, ⟨⟨trivial, to75, trivial⟩, to76, ⟨trivial, to77, trivial⟩⟩⟩⟩⟩⟩, to78, ⟨⟨⟨⟨⟨⟨⟨trivial, to79, trivial⟩, to80, trivial⟩, to81, ⟨trivial, to82, trivial⟩⟩, to83, ⟨⟨trivial, to84, trivial⟩, to85, ⟨trivial, to86, trivial⟩⟩⟩, to88, ⟨⟨⟨trivial, to89, trivial⟩, to90, ⟨trivial, to91, trivial⟩⟩, to92, ⟨⟨trivial, to93, trivial⟩, to94, ⟨trivial, to95, trivial⟩⟩⟩⟩, to96, ⟨⟨⟨⟨⟨trivial, to97, trivial⟩, to98, trivial⟩, to99, ⟨trivial, to100, trivial⟩⟩, to101, ⟨⟨trivial, to102, trivial⟩, to103, ⟨trivial, to104, trivial⟩⟩⟩, to105, ⟨⟨⟨trivial, to106, trivial⟩, to107, ⟨trivial, to108, trivial⟩⟩, to109, ⟨⟨trivial, to110, trivial⟩, to111, ⟨trivial, to112, trivial⟩⟩⟩⟩⟩, to113, ⟨⟨⟨⟨⟨⟨trivial, to114, trivial⟩, to115, trivial⟩, to116, ⟨trivial, to117, trivial⟩⟩, to118, ⟨⟨trivial, to119, trivial⟩, to120, ⟨trivial, to121, trivial⟩⟩⟩, to123, ⟨⟨⟨trivial, to124, trivial⟩, to125, ⟨trivial, to126, trivial⟩⟩, to127, ⟨⟨trivial, to128, trivial⟩, to129, ⟨trivial, to130, trivial⟩⟩⟩⟩, to131, ⟨⟨⟨⟨trivial, to132, trivial⟩, to133, ⟨trivial, to134, trivial⟩⟩, to135, ⟨⟨trivial, to136, trivial⟩, to138, ⟨trivial, to141, trivial⟩⟩⟩, to144, ⟨⟨⟨trivial, to145, trivial⟩, to146, ⟨trivial, to147, trivial⟩⟩, to148, ⟨⟨trivial, to149, trivial⟩, to150, ⟨trivial, to151, trivial⟩⟩⟩⟩⟩⟩⟩
end Go.Proofs.Ytjggjhgbobmkhaa
