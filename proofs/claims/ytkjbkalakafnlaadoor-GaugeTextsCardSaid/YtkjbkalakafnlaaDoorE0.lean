/- A calculus of one's own over the walk's: frames as functions of the slots, operations step by step, each by one lemma. -/
import Derived.Test.YtkjbkalakafnlaaDoorA1
namespace Go.Proofs.YtkjbkalakafnlaaDoor
open Go.RowKit
set_option linter.unusedVariables false
set_option linter.unusedSimpArgs false

theorem nbeq_ne {a b : Nat} (h : a ≠ b) : Nat.beq a b = false := by
  rw [← Bool.not_eq_true]
  intro h'
  exact h (Nat.eq_of_beq_eq_true h')
theorem nbeq_self (a : Nat) : Nat.beq a a = true := Nat.beq_refl a
theorem nblt {a b : Nat} (h : Nat.blt a b = true) : a < b := Nat.le_of_ble_eq_true h
abbrev Fm := Nat → Value
def upd (F : Fm) (d : Nat) (v : Value) : Fm := fun t => bif Nat.beq t d then v else F t
def updO (F : Fm) : Option Nat → Value → Fm
  | some d, v => upd F d v
  | none, _ => F
structure Fr (a : Act) (n : Nat) (F : Fm) : Prop where
  size : a.tmps.size = n
  defers : a.defers = []
  get : ∀ t, a.tmps.getD t undef = F t
def ev (F : Fm) : Operand → Value
  | .tmp t => F t
  | .const v => v
  | .global g => .pointer (some ⟨g, 0, none⟩)
  | .func f => .func (.func f) #[] #[]
theorem Fr.eval {a : Act} {n : Nat} {F : Fm} (h : Fr a n F) : a.eval = ev F := funext fun x => by
  cases x <;> simp only [Act.eval, ev]
  exact h.get _
def dstOk (n : Nat) : Option Nat → Bool
  | none => true
  | some d => Nat.blt d n
theorem Fr.put {a : Act} {n : Nat} {F : Fm} (h : Fr a n F) {d : Option Nat} (hd : dstOk n d = true) (v : Value) : Fr (a.put d v) n (updO F d v) := by
  cases d with
  | none => exact h
  | some d =>
    have hd' : d < a.tmps.size := by rw [h.size]; exact nblt hd
    refine ⟨by simp [Act.put, h.size], h.defers, fun t => ?_⟩
    simp only [Act.put, updO, upd]
    by_cases e : t = d
    · subst e
      rw [nbeq_self]
      simp [Array.getD, hd']
    · have : Nat.beq t d = false := nbeq_ne e
      simp only [this, cond_false]
      rw [← h.get t]
      simp [Array.getD_eq_getD_getElem?, Array.getElem?_setIfInBounds, Ne.symm e]
theorem upd_self (F : Fm) (t : Nat) (v : Value) (h : F t = v) : upd F t v = F := funext fun s => by
  unfold upd
  by_cases e : s = t
  · subst e; rw [nbeq_self]; exact h.symm
  · rw [nbeq_ne e]; rfl

/-! ### types, as a table -/
structure TI where
  desc : TypeDesc
  size : Nat
  bytes : Nat
  zero : Value
/-- A tree of types, by their numbers. -/
inductive TT where
  | leaf
  | node (l : TT) (t : Nat) (i : TI) (r : TT)
def lookT : TT → Nat → Option TI
  | .leaf, _ => none
  | .node l t i r, u => bif Nat.beq u t then some i else bif Nat.blt u t then lookT l u else lookT r u
def EntryOk (P : Program) (t : Nat) (i : TI) : Prop := P.underlying t = some i.desc ∧ (P.info? t).map (fun j => (j.zero, j.size, j.bytes)) = some (some i.zero, i.size, i.bytes)
structure TabOk (P : Program) (T : Nat → Option TI) : Prop where
  ok : ∀ t i, T t = some i → EntryOk P t i
def TreeOk (P : Program) : TT → Prop
  | .leaf => True
  | .node l t i r => TreeOk P l ∧ EntryOk P t i ∧ TreeOk P r
theorem lookT_ok {P : Program} : ∀ {l : TT}, TreeOk P l → ∀ t i, lookT l t = some i → EntryOk P t i
  | .leaf, _, t, i, h => by simp [lookT] at h
  | .node l u j r, ⟨h1, h2, h3⟩, t, i, h => by
    simp only [lookT] at h
    by_cases e : t = u
    · subst e
      rw [nbeq_self] at h
      simp only [cond_true, Option.some.injEq] at h
      subst h
      exact h2
    · rw [nbeq_ne e] at h
      simp only [cond_false] at h
      cases hb : Nat.blt t u
      · rw [hb] at h; exact lookT_ok h3 t i h
      · rw [hb] at h; exact lookT_ok h1 t i h
theorem tabOk_of {P : Program} {l : TT} (h : TreeOk P l) : TabOk P (lookT l) := ⟨lookT_ok h⟩

structure Post where
  n : Fm → World → Prop
  r : Fm → World → Prop
  x : Nat → Fm → World → Prop
def lift (n : Nat) (Q : Post) : Exit → Act → World → Prop
  | .normal, a, w => ∃ F, Fr a n F ∧ Q.n F w
  | .ret, a, w => ∃ F, Fr a n F ∧ Q.r F w
  | .exit i, a, w => ∃ F, Fr a n F ∧ Q.x i F w
  | _, _, _ => False
def wc (P : Program) (n : Nat) (c : Code) (Q : Post) (F : Fm) (w : World) : Prop := ∀ a, Fr a n F → c.wp P (lift n Q) a w
def wl (P : Program) (n : Nat) (ops : Array Oper) (rest : List Oper) (Q : Post) (F : Fm) (w : World) : Prop := ∀ a, Fr a n F → wpList P ops (lift n Q) rest a w
def Post.seq (next : Fm → World → Prop) (Q : Post) : Post := ⟨next, Q.r, Q.x⟩
def Post.blk (id : Nat) (Q : Post) : Post := ⟨Q.n, Q.r, fun i F w => bif Nat.beq i id then Q.n F w else Q.x i F w⟩

section rules
variable {P : Program} {n : Nat} {Q : Post} {F : Fm} {w : World}
theorem lift_mono {Q' : Post} (hn : ∀ F w, Q.n F w → Q'.n F w) (hr : ∀ F w, Q.r F w → Q'.r F w) (hx : ∀ i F w, Q.x i F w → Q'.x i F w) : ∀ e a w, lift n Q e a w → lift n Q' e a w := by
  intro e a w h
  cases e <;> simp only [lift] at h ⊢
  · obtain ⟨F, h1, h2⟩ := h; exact ⟨F, h1, hn _ _ h2⟩
  · obtain ⟨F, h1, h2⟩ := h; exact ⟨F, h1, hx _ _ _ h2⟩
  · obtain ⟨F, h1, h2⟩ := h; exact ⟨F, h1, hr _ _ h2⟩
theorem wc_mono {c : Code} {Q' : Post} (h : wc P n c Q F w) (hn : ∀ F w, Q.n F w → Q'.n F w) (hr : ∀ F w, Q.r F w → Q'.r F w) (hx : ∀ i F w, Q.x i F w → Q'.x i F w) : wc P n c Q' F w :=
  fun a ha => wp_mono (h a ha) (lift_mono hn hr hx)
theorem wc_seq {x y : Code} (h : wc P n x (Q.seq (wc P n y Q)) F w) : wc P n (.seq x y) Q F w := fun a ha =>
  wp_seq (wp_mono (h a ha) (by
    intro e a w h
    cases e <;> simp only [lift, Post.seq] at h <;> simp only [Exit.then]
    · obtain ⟨F, h1, h2⟩ := h; exact h2 a h1
    · exact h
    · exact h))
theorem wc_skip (h : Q.n F w) : wc P n .skip Q F w := fun a ha => wp_skip ⟨F, ha, h⟩
theorem wc_ret (h : Q.r F w) : wc P n .ret Q F w := fun a ha => wp_ret ⟨F, ha, h⟩
theorem wc_exit {i : Nat} (h : Q.x i F w) : wc P n (.exit i) Q F w := fun a ha => wp_exit ⟨F, ha, h⟩
theorem wc_label {i : Nat} (h : Q.n F w) : wc P n (.label i) Q F w := fun a ha => wp_label ⟨F, ha, h⟩
theorem wc_block {id : Nat} {c : Code} (h : wc P n c (Q.blk id) F w) : wc P n (.block id c) Q F w := fun a ha =>
  wp_block (wp_mono (h a ha) (by
    intro e a w h
    cases e <;> simp only [lift, Post.blk] at h <;> simp only [Exit.inBlock]
    · exact h
    · rename_i i
      obtain ⟨F, h1, h2⟩ := h
      by_cases e : i = id
      · subst e; rw [nbeq_self] at h2; simp only [if_true]; exact ⟨F, h1, h2⟩
      · rw [nbeq_ne e] at h2; simp only [e, if_false]; exact ⟨F, h1, h2⟩
    · exact h))
theorem seq_n {next : Fm → World → Prop} (h : next F w) : (Q.seq next).n F w := h
theorem blk_n {i : Nat} (h : Q.n F w) : (Q.blk i).n F w := h
theorem seq_x {next : Fm → World → Prop} {i : Nat} (h : Q.x i F w) : (Q.seq next).x i F w := h
theorem blk_hit {i : Nat} (h : Q.n F w) : (Q.blk i).x i F w := by simp only [Post.blk, nbeq_self, cond_true]; exact h
theorem blk_miss {i j : Nat} (e : Nat.beq i j = false) (h : Q.x i F w) : (Q.blk j).x i F w := by simp only [Post.blk, e, cond_false]; exact h
theorem wc_if {c : Operand} {x y : Code} {b : Bool} (hc : ev F c = .bool b) (ht : b = true → wc P n x Q F w) (hf : b = false → wc P n y Q F w) : wc P n (.cond c x y) Q F w := fun a ha => by
  have hc' : a.eval c = .bool b := by rw [ha.eval]; exact hc
  exact wp_cond_split hc' (fun h => ht h a ha) (fun h => hf h a ha)
theorem wc_ifd {c : Operand} {x y : Code} {p : Prop} {ip : Decidable p} (hc : ev F c = .bool (decide p)) (ht : p → wc P n x Q F w) (hf : ¬ p → wc P n y Q F w) : wc P n (.cond c x y) Q F w :=
  wc_if hc (fun h => ht (of_decide_eq_true h)) (fun h => hf (of_decide_eq_false h))
theorem wc_ifn {c : Operand} {x y : Code} {p : Prop} {ip : Decidable p} (hc : ev F c = .bool (!decide p)) (ht : ¬ p → wc P n x Q F w) (hf : p → wc P n y Q F w) : wc P n (.cond c x y) Q F w :=
  wc_if hc (fun h => ht (by simpa using h)) (fun h => hf (by simpa using h))
theorem wc_ift {c : Operand} {x y : Code} (hc : ev F c = .bool true) (ht : wc P n x Q F w) : wc P n (.cond c x y) Q F w := wc_if hc (fun _ => ht) (fun h => by cases h)
theorem wc_iff {c : Operand} {x y : Code} (hc : ev F c = .bool false) (hf : wc P n y Q F w) : wc P n (.cond c x y) Q F w := wc_if hc (fun h => by cases h) (fun _ => hf)

/-! ### loops -/
def holds (F : Fm) : List (Nat × Value) → Prop
  | [] => True
  | (t, v) :: l => F t = v ∧ holds F l
def upds (F : Fm) : List (Nat × Value) → Fm
  | [] => F
  | (t, v) :: l => upd (upds F l) t v
theorem upds_of_holds {F : Fm} : ∀ {l : List (Nat × Value)}, holds F l → upds F l = F
  | [], _ => rfl
  | (t, v) :: l, ⟨h, hl⟩ => by
    simp only [upds]
    rw [upds_of_holds hl]
    exact upd_self F t v h
theorem wc_loop {X : Type} (S : X → List (Nat × Value)) (R : X → World → Prop) (m : X → Nat) (x0 : X) {body : Code} (hS : holds F (S x0)) (hR : R x0 w)
    (round : ∀ x G w, R x w → wc P n body (Q.seq fun F' w' => ∃ x', holds F' (S x') ∧ R x' w' ∧ m x' < m x) (upds G (S x)) w) : wc P n (.loop body) Q F w := by
  intro a ha
  classical
  let I : Act → World → Nat → Prop := fun a w d => ∃ x F, Fr a n F ∧ holds F (S x) ∧ R x w ∧ m x = d
  let μ : Act → World → Nat := fun a w => if h : ∃ d, I a w d then h.choose else 0
  have least : ∀ a w, (∃ d, I a w d) → ∃ d, I a w d ∧ ∀ d', I a w d' → d ≤ d' := by
    intro a w ⟨d, hd⟩
    induction d using Nat.strongRecOn with
    | _ d ih =>
      by_cases h : ∃ d', I a w d' ∧ d' < d
      · obtain ⟨d', h1, h2⟩ := h
        exact ih d' h2 h1
      · exact ⟨d, hd, fun d' h1 => Nat.le_of_not_lt fun h2 => h ⟨d', h1, h2⟩⟩
  let ν : Act → World → Nat := fun a w => if h : ∃ d, I a w d then (least a w h).choose else 0
  have hν : ∀ a w (h : ∃ d, I a w d), I a w (ν a w) ∧ ∀ d', I a w d' → ν a w ≤ d' := by
    intro a w h
    have : ν a w = (least a w h).choose := by simp only [ν]; rw [dif_pos h]
    rw [this]
    exact (least a w h).choose_spec
  refine wp_loop (fun a w => ∃ d, I a w d) ν ⟨_, x0, F, ha, hS, hR, rfl⟩ ?_
  intro a w hI
  obtain ⟨⟨x, F, hF, hS, hR, hm⟩, _⟩ := hν a w hI
  have hr := round x F w hR
  rw [upds_of_holds hS] at hr
  refine wp_mono (hr a hF) ?_
  intro e a' w' h
  cases e <;> simp only [lift] at h <;> simp only [Exit.then]
  · obtain ⟨F', h1, x', h2, h3, h4⟩ := h
    have hI' : ∃ d, I a' w' d := ⟨_, x', F', h1, h2, h3, rfl⟩
    exact ⟨hI', Nat.lt_of_le_of_lt ((hν a' w' hI').2 _ ⟨x', F', h1, h2, h3, rfl⟩) (by omega)⟩
  · exact h
  · exact h
/-- Ways meet again: what holds between two pieces. -/
theorem wc_cut {X : Type} (S : X → List (Nat × Value)) (R : X → World → Prop) {x y : Code}
    (h : wc P n x (Q.seq fun F' w' => ∃ x', holds F' (S x') ∧ R x' w') F w) (k : ∀ x G w, R x w → wc P n y Q (upds G (S x)) w) : wc P n (.seq x y) Q F w :=
  wc_seq (wc_mono h (fun F' w' ⟨x', h1, h2⟩ => by have := k x' F' w' h2; rwa [upds_of_holds h1] at this) (fun _ _ h => h) (fun _ _ _ h => h))
/-- What is forgotten of a frame. -/
theorem wc_gen {X : Type} (S : X → List (Nat × Value)) (R : X → World → Prop) (x0 : X) {c : Code} (hS : holds F (S x0)) (hR : R x0 w) (k : ∀ x G w, R x w → wc P n c Q (upds G (S x)) w) : wc P n c Q F w := by
  have := k x0 F w hR
  rwa [upds_of_holds hS] at this

/-! ### entry and end -/
def initF : Nat → List Value → Fm
  | _, [] => fun _ => undef
  | k, v :: l => upd (initF (k + 1) l) k v
theorem initF_get : ∀ (l : List Value) (k t : Nat), initF k l t = if t < k then undef else l.getD (t - k) undef
  | [], k, t => by simp [initF]
  | v :: l, k, t => by
    simp only [initF, upd]
    by_cases e : t = k
    · subst e; rw [nbeq_self]; simp
    · have : Nat.beq t k = false := nbeq_ne e
      simp only [this, cond_false]
      rw [initF_get l (k + 1) t]
      by_cases h : t < k
      · rw [if_pos h, if_pos (by omega)]
      · rw [if_neg h, if_neg (by omega)]
        obtain ⟨j, rfl⟩ : ∃ j, t = k + 1 + j := ⟨t - (k + 1), by omega⟩
        simp [show k + 1 + j - k = j + 1 by omega, show k + 1 + j - (k + 1) = j by omega]
def retQ (P : Program) (fn : Func) (R : Ending → World → Prop) (F : Fm) (w : World) : Prop := ∀ tmps : Array Value, (∀ t, tmps.getD t undef = F t) → ∃ v, (results fn tmps).run P w = .ok v w ∧ R (.returned v) w
theorem enterW {f : FuncId} {fn : Func} {c : Code} {args : List Value} {R : Ending → World → Prop} (m : Nat) (hf : P.funcs[f]? = some fn) (hb : fn.body = some c) (hm : fn.ntmps = m) (hn : Nat.ble args.length m = true)
    (h : wc P m c ⟨retQ P fn R, retQ P fn R, fun _ _ _ => False⟩ (initF 0 args) w) : Calls P f args.toArray w R := by
  subst hm
  refine calls_of_wp hf hb (wp_mono (h _ ⟨?_, rfl, fun t => ?_⟩) ?_)
  · have : args.length ≤ fn.ntmps := by simpa using hn
    simp; omega
  · rw [initF_get]
    simp only [Nat.not_lt_zero, if_false, Nat.sub_zero]
    rw [Array.getD_eq_getD_getElem?, Array.getElem?_append]
    by_cases ht : t < args.length
    · simp [ht, List.getD_eq_getElem?_getD]
    · simp [ht, List.getD_eq_getElem?_getD, Array.getElem?_replicate, List.getElem?_eq_none (Nat.le_of_not_lt ht)]
      split <;> rfl
  · intro e a w h
    cases e <;> simp only [lift] at h <;> simp only [bodyPost]
    · obtain ⟨F, h1, h2⟩ := h; exact ⟨h1.defers, h2 _ h1.get⟩
    · obtain ⟨F, h1, h2⟩ := h; exact h2
    · obtain ⟨F, h1, h2⟩ := h; exact ⟨h1.defers, h2 _ h1.get⟩
theorem ret1 {fn : Func} {R : Ending → World → Prop} {t : Tmp} (hr : fn.results = #[.tmp t]) {v : Value} (hv : F t = v) (h : R (.returned v) w) : retQ P fn R F w := fun tmps ht => by
  subst hv
  exact ⟨_, results_tmp hr tmps P w, by rw [ht]; exact h⟩

/-! ### operations -/
variable {ops : Array Oper} {rest : List Oper} {o : Oper}
theorem wc_reg {id : Nat} {l : List Oper} (h : wl P n l.toArray l Q F w) : wc P n (.region id l.toArray false) Q F w := fun a ha => wp_region_lit (h a ha)
theorem wl_nil (h : Q.n F w) : wl P n ops [] Q F w := fun a ha => wpList_nil ⟨F, ha, h⟩
theorem dst_some {d : Nat} (hd : o.dst = some d) (hn : Nat.blt d n = true) : dstOk n o.dst = true := by rw [hd]; exact hn
theorem wl_val {v : Value} {w1 : World} {d : Nat} (hg : o.guard = none) (hd : o.dst = some d) (hn : Nat.blt d n = true) (hrun : (execOp (ev F) o).run P w = .ok (.value v) w1) (k : wl P n ops rest Q (upd F d v) w1) : wl P n ops (o :: rest) Q F w :=
  fun a ha => wpList_plain hg fun K hK => by
    unfold Oper.wp
    rw [ha.eval, hrun]
    refine hK _ _ (k _ ?_)
    have := ha.put (dst_some hd hn) v
    rw [hd] at this ⊢
    exact this
theorem wl_skp {w1 : World} (hg : o.guard = none) (hd : o.dst = none) (hrun : (execOp (ev F) o).run P w = .ok .skip w1) (k : wl P n ops rest Q F w1) : wl P n ops (o :: rest) Q F w :=
  fun a ha => wpList_plain hg fun K hK => by
    unfold Oper.wp
    rw [ha.eval, hrun]
    refine hK _ _ (k _ ?_)
    rw [hd]
    exact ha
theorem wl_ent {f : FuncId} {args : Array Value} {R : Ending → World → Prop} {d : Nat} (hg : o.guard = none) (hd : o.dst = some d) (hn : Nat.blt d n = true) (hrun : (execOp (ev F) o).run P w = .ok (.enter f args) w) (hc : Calls P f args w R)
    (k : ∀ e w1, R e w1 → ∃ v, e = .returned v ∧ wl P n ops rest Q (upd F d v) w1) : wl P n ops (o :: rest) Q F w :=
  fun a ha => wpList_plain hg fun K hK => by
    unfold Oper.wp
    rw [ha.eval, hrun]
    refine hc.mono ?_
    intro e w1 hR
    obtain ⟨v, rfl, hv⟩ := k e w1 hR
    refine hK _ _ (hv _ ?_)
    have := ha.put (dst_some hd hn) v
    rw [hd] at this ⊢
    exact this
/-- A guarded operation. -/
def ung (o : Oper) : Oper := { o with guard := none }
theorem wl_gT {j : Nat} {b : Bool} {oj : Oper} {t : Tmp} (hg : o.guard = some (j, b)) (hj : ops[j]? = some oj) (ht : oj.dst = some t) (hb : F t = .bool b) (hn : Nat.blt t n = true) (k : wl P n ops (ung o :: rest) Q F w) : wl P n ops (o :: rest) Q F w := fun a ha => by
  have hlt : t < a.tmps.size := by rw [ha.size]; exact nblt hn
  have h1 := ha.get t
  rw [hb, Array.getD_eq_getD_getElem?, Array.getElem?_eq_getElem hlt] at h1
  have hw : Region.wanted o (yielded ops a.tmps) = true := by
    simp only [Region.wanted, hg, yielded, hj, Option.bind_some, ht, Array.getElem?_eq_getElem hlt]
    simp at h1
    simp [h1]
  have hk := k a ha
  unfold wpList at hk ⊢
  rw [if_pos hw]
  rw [if_pos (by simp [Region.wanted, ung])] at hk
  exact hk
theorem wl_gF {j : Nat} {b c : Bool} {oj : Oper} {t : Tmp} (hg : o.guard = some (j, b)) (hj : ops[j]? = some oj) (ht : oj.dst = some t) (hb : F t = .bool c) (hne : (c == b) = false) (hn : Nat.blt t n = true) {d : Nat} (hd : o.dst = some d) (hdn : Nat.blt d n = true) (k : wl P n ops rest Q (upd F d undef) w) : wl P n ops (o :: rest) Q F w := fun a ha => by
  have hlt : t < a.tmps.size := by rw [ha.size]; exact nblt hn
  have h1 := ha.get t
  rw [hb, Array.getD_eq_getD_getElem?, Array.getElem?_eq_getElem hlt] at h1
  have hw : Region.wanted o (yielded ops a.tmps) = false := by
    simp only [Region.wanted, hg, yielded, hj, Option.bind_some, ht, Array.getElem?_eq_getElem hlt]
    simp at h1
    simp [h1]
    simpa using hne
  have hk := k _ (by have := ha.put (dst_some hd hdn) undef; rw [hd] at this; exact this)
  rw [← hd] at hk
  unfold wpList
  rw [hw]
  simpa using hk
/-- A guard whose guard wasn't met either. -/
theorem wl_gU {j : Nat} {b : Bool} {oj : Oper} {t : Tmp} (hg : o.guard = some (j, b)) (hj : ops[j]? = some oj) (ht : oj.dst = some t) (hb : F t = undef) (hn : Nat.blt t n = true) {d : Nat} (hd : o.dst = some d) (hdn : Nat.blt d n = true) (k : wl P n ops rest Q (upd F d undef) w) : wl P n ops (o :: rest) Q F w := fun a ha => by
  have hlt : t < a.tmps.size := by rw [ha.size]; exact nblt hn
  have h1 := ha.get t
  rw [hb, Array.getD_eq_getD_getElem?, Array.getElem?_eq_getElem hlt] at h1
  have hw : Region.wanted o (yielded ops a.tmps) = false := by
    simp only [Region.wanted, hg, yielded, hj, Option.bind_some, ht, Array.getElem?_eq_getElem hlt]
    simp at h1
    simp [h1, undef]
  have hk := k _ (by have := ha.put (dst_some hd hdn) undef; rw [hd] at this; exact this)
  rw [← hd] at hk
  unfold wpList
  rw [hw]
  simpa using hk
/-- A guard that isn't known: both ways. -/
theorem wl_g {j : Nat} {b c : Bool} {oj : Oper} {t : Tmp} (hg : o.guard = some (j, b)) (hj : ops[j]? = some oj) (ht : oj.dst = some t) (hb : F t = .bool c) (hn : Nat.blt t n = true) {d : Nat} (hd : o.dst = some d) (hdn : Nat.blt d n = true)
    (k1 : c = true → wl P n ops (bif b then ung o :: rest else rest) Q (bif b then upd F t (.bool true) else upd (upd F t (.bool true)) d undef) w)
    (k2 : c = false → wl P n ops (bif b then rest else ung o :: rest) Q (bif b then upd (upd F t (.bool false)) d undef else upd F t (.bool false)) w) : wl P n ops (o :: rest) Q F w := by
  cases c
  · have h := k2 rfl
    rw [upd_self F t _ hb] at h
    cases b
    · exact wl_gT hg hj ht hb hn h
    · exact wl_gF hg hj ht hb rfl hn hd hdn h
  · have h := k1 rfl
    rw [upd_self F t _ hb] at h
    cases b
    · exact wl_gF hg hj ht hb rfl hn hd hdn h
    · exact wl_gT hg hj ht hb hn h
end rules
attribute [irreducible] wc wl retQ
end Go.Proofs.YtkjbkalakafnlaaDoor
