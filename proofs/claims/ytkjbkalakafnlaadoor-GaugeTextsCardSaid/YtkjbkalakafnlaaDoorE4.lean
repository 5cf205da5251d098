/- The calculus runs by itself as far as nothing is asked of memory: 'runG', 'runC' reduce to the next thing that is asked. -/
import Derived.Test.YtkjbkalakafnlaaDoorE3
namespace Go.Proofs.YtkjbkalakafnlaaDoor
open Go.RowKit
set_option linter.unusedVariables false
set_option linter.unusedSimpArgs false
def gs (c : Bool) (A B : Prop) : Prop := match c with
  | true => A
  | false => B
theorem gs_d {p : Prop} {ip : Decidable p} {A B : Prop} (h1 : p → A) (h2 : ¬ p → B) : gs (decide p) A B := by
  by_cases h : p
  · rw [decide_eq_true h]; exact h1 h
  · rw [decide_eq_false h]; exact h2 h
theorem gs_n {p : Prop} {ip : Decidable p} {A B : Prop} (h1 : ¬ p → A) (h2 : p → B) : gs (!decide p) A B := by
  by_cases h : p
  · rw [decide_eq_true h]; exact h2 h
  · rw [decide_eq_false h]; exact h1 h
theorem gs_b {c : Bool} {A B : Prop} (h1 : c = true → A) (h2 : c = false → B) : gs c A B := by
  cases c
  · exact h2 rfl
  · exact h1 rfl
theorem gs_nb {c : Bool} {A B : Prop} (h1 : c = false → A) (h2 : c = true → B) : gs (!c) A B := by
  cases c
  · exact h1 rfl
  · exact h2 rfl
theorem gs_t {c : Bool} {A B : Prop} (h : c = true) (h1 : A) : gs c A B := by rw [h]; exact h1
theorem gs_f {c : Bool} {A B : Prop} (h : c = false) (h1 : B) : gs c A B := by rw [h]; exact h1
/-- The test is known. -/
theorem gs_dt {p : Prop} {ip : Decidable p} {A B : Prop} (h : p) (h1 : A) : gs (decide p) A B := by rw [decide_eq_true h]; exact h1
theorem gs_df {p : Prop} {ip : Decidable p} {A B : Prop} (h : ¬ p) (h1 : B) : gs (decide p) A B := by rw [decide_eq_false h]; exact h1

def runG (P : Program) (T : Nat → Option TI) (n : Nat) (ops : Array Oper) : List Oper → Post → Fm → World → Prop
  | [], Q, F, w => Q.n F w
  | o :: rest, Q, F, w =>
    match o.guard with
    | none => match pureF T o.op F, o.dst with
      | some v, some d => bif Nat.blt d n then runG P T n ops rest Q (upd F d v) w else wl P n ops (o :: rest) Q F w
      | _, _ => wl P n ops (o :: rest) Q F w
    | some (j, b) => match ops[j]? with
      | none => wl P n ops (o :: rest) Q F w
      | some oj => match oj.dst, o.dst with
        | some t, some d => bif Nat.blt t n && Nat.blt d n then
            (match F t with
            | .bool c =>
              gs c
                (match b with
                | true => match pureF T o.op (upd F t (.bool true)) with
                  | some v => runG P T n ops rest Q (upd (upd F t (.bool true)) d v) w
                  | none => wl P n ops (ung o :: rest) Q (upd F t (.bool true)) w
                | false => runG P T n ops rest Q (upd (upd F t (.bool true)) d undef) w)
                (match b with
                | true => runG P T n ops rest Q (upd (upd F t (.bool false)) d undef) w
                | false => match pureF T o.op (upd F t (.bool false)) with
                  | some v => runG P T n ops rest Q (upd (upd F t (.bool false)) d v) w
                  | none => wl P n ops (ung o :: rest) Q (upd F t (.bool false)) w)
            | v => gs (isUndef v) (runG P T n ops rest Q (upd F d undef) w) (wl P n ops (o :: rest) Q F w))
          else wl P n ops (o :: rest) Q F w
        | _, _ => wl P n ops (o :: rest) Q F w
where isUndef : Value → Bool
  | .tuple vs => vs.isEmpty
  | _ => false

section
variable {P : Program} {T : Nat → Option TI} {n : Nat} {Q : Post} {F : Fm} {w : World}
theorem wl_of_ung {ops : Array Oper} {o : Oper} {rest : List Oper} {j : Nat} {b : Bool} {oj : Oper} {t : Tmp} (hg : o.guard = some (j, b)) (hj : ops[j]? = some oj) (ht : oj.dst = some t) (hb : F t = .bool b) (hn : Nat.blt t n = true) {d : Nat} (hd : o.dst = some d) (hdn : Nat.blt d n = true) (hT : TabOk P T)
    (k : match pureF T o.op F with | some v => wl P n ops rest Q (upd F d v) w | none => wl P n ops (ung o :: rest) Q F w) : wl P n ops (o :: rest) Q F w := by
  refine wl_gT hg hj ht hb hn ?_
  split at k
  · rename_i v hv
    exact wl_P (o := ung o) hT hv rfl hd hdn k
  · exact k
theorem run_l (hT : TabOk P T) {ops : Array Oper} : ∀ {rest : List Oper} {Q : Post} {F : Fm}, runG P T n ops rest Q F w → wl P n ops rest Q F w
  | [], Q, F, h => wl_nil h
  | o :: rest, Q, F, h => by
    unfold runG at h
    split at h
    · rename_i hg
      split at h
      · rename_i v d hv hd
        cases hb : Nat.blt d n
        · rw [hb] at h; exact h
        · rw [hb] at h; exact wl_P hT hv hg hd hb (run_l hT h)
      · exact h
    · rename_i j b hg
      split at h
      · exact h
      · rename_i oj hj
        split at h
        · rename_i t d ht hd
          cases hbb : (Nat.blt t n && Nat.blt d n) with
          | false => rw [hbb] at h; exact h
          | true =>
            rw [hbb] at h
            simp only [Bool.and_eq_true] at hbb
            simp only [cond_true] at h
            split at h
            · rename_i c hc
              cases c with
              | true =>
                have e : upd F t (.bool true) = F := upd_self F t _ hc
                rw [e] at h
                cases b with
                | true =>
                  refine wl_of_ung hg hj ht hc hbb.1 hd hbb.2 hT ?_
                  have h' : (match pureF T o.op F with | some v => runG P T n ops rest Q (upd F d v) w | none => wl P n ops (ung o :: rest) Q F w) := h
                  revert h'
                  cases pureF T o.op F with
                  | some v => exact fun h' => run_l hT h'
                  | none => exact fun h' => h'
                | false =>
                  have h' : runG P T n ops rest Q (upd F d undef) w := h
                  exact wl_gF hg hj ht hc rfl hbb.1 hd hbb.2 (run_l hT h')
              | false =>
                have e : upd F t (.bool false) = F := upd_self F t _ hc
                rw [e] at h
                cases b with
                | false =>
                  refine wl_of_ung hg hj ht hc hbb.1 hd hbb.2 hT ?_
                  have h' : (match pureF T o.op F with | some v => runG P T n ops rest Q (upd F d v) w | none => wl P n ops (ung o :: rest) Q F w) := h
                  revert h'
                  cases pureF T o.op F with
                  | some v => exact fun h' => run_l hT h'
                  | none => exact fun h' => h'
                | true =>
                  have h' : runG P T n ops rest Q (upd F d undef) w := h
                  exact wl_gF hg hj ht hc rfl hbb.1 hd hbb.2 (run_l hT h')
            · generalize hv : F t = v at h
              cases hu : runG.isUndef v
              · rw [hu] at h; exact h
              · rw [hu] at h
                have : v = undef := by
                  unfold runG.isUndef at hu
                  split at hu
                  · rename_i vs; unfold undef; simp at hu; rw [hu]
                  · cases hu
                rw [this] at hv
                exact wl_gU hg hj ht hv hbb.1 hd hbb.2 (run_l hT h)
        · exact h

def runC (P : Program) (T : Nat → Option TI) (n : Nat) : Code → Post → Fm → World → Prop
  | .seq x y, Q, F, w => runC P T n x ⟨fun F w => runC P T n y Q F w, Q.r, Q.x⟩ F w
  | .cond c x y, Q, F, w => match ev F c with
    | .bool b => gs b (runC P T n x Q F w) (runC P T n y Q F w)
    | _ => wc P n (.cond c x y) Q F w
  | .block id c, Q, F, w => runC P T n c ⟨Q.n, Q.r, fun i F w => bif Nat.beq i id then Q.n F w else Q.x i F w⟩ F w
  | .exit i, Q, F, w => Q.x i F w
  | .ret, Q, F, w => Q.r F w
  | .skip, Q, F, w => Q.n F w
  | .label _, Q, F, w => Q.n F w
  | .region id ops d, Q, F, w => match d with
    | false => runG P T n ops ops.toList Q F w
    | true => wc P n (.region id ops true) Q F w
  | c, Q, F, w => wc P n c Q F w
theorem run_c (hT : TabOk P T) : ∀ {c : Code} {Q : Post} {F : Fm} {w : World}, runC P T n c Q F w → wc P n c Q F w := by
  intro c
  induction c with
  | seq x y ihx ihy =>
    intro Q F w h
    unfold runC at h
    exact wc_seq (wc_mono (ihx h) (fun F w h => ihy h) (fun _ _ h => h) (fun _ _ _ h => h))
  | cond c x y ihx ihy =>
    intro Q F w h
    unfold runC at h
    split at h
    · rename_i b hb
      cases b
      · exact wc_iff hb (ihy h)
      · exact wc_ift hb (ihx h)
    · exact h
  | block id c ih =>
    intro Q F w h
    unfold runC at h
    exact wc_block (ih h)
  | exit i => intro Q F w h; unfold runC at h; exact wc_exit h
  | ret => intro Q F w h; unfold runC at h; exact wc_ret h
  | skip => intro Q F w h; unfold runC at h; exact wc_skip h
  | label l => intro Q F w h; unfold runC at h; exact wc_label h
  | region id ops d =>
    intro Q F w h
    unfold runC at h
    cases d
    · have : wc P n (.region id ops.toList.toArray false) Q F w := wc_reg (run_l hT (by simpa using h))
      simpa using this
    · exact h
  | _ => intro Q F w h; unfold runC at h; exact h
/-- Entry. -/
def Fin (P : Program) (fn : Func) (R : Ending → World → Prop) (F : Fm) (w : World) : Prop := retQ P fn R F w
theorem enterR {f : FuncId} {fn : Func} {c : Code} {args : List Value} {R : Ending → World → Prop} {m : Nat} (hT : TabOk P T) (hf : P.funcs[f]? = some fn) (hb : fn.body = some c) (hm : fn.ntmps = m) (hn : Nat.ble args.length m = true)
    (h : runC P T m c ⟨Fin P fn R, Fin P fn R, fun _ _ _ => False⟩ (initF 0 args) w) : Calls P f args.toArray w R := enterW m hf hb hm hn (run_c hT h)
theorem fin1 {fn : Func} {R : Ending → World → Prop} {t : Tmp} {v : Value} (hr : fn.results = #[.tmp t]) (hv : opn (F t) = some v) (h : R (.returned v) w) : Fin P fn R F w := ret1 hr (by rw [opn_eq] at hv; exact Option.some.inj hv) h
theorem lp_loop (hT : TabOk P T) {X : Type} (S : X → List (Nat × Value)) (R : X → World → Prop) (m : X → Nat) (x0 : X) {body : Code} (hS : holds F (S x0)) (hR : R x0 w)
    (round : ∀ x G w, R x w → runC P T n body ⟨fun F' w' => ∃ x', holds F' (S x') ∧ R x' w' ∧ m x' < m x, Q.r, Q.x⟩ (upds G (S x)) w) : wc P n (.loop body) Q F w :=
  wc_loop S R m x0 hS hR fun x G w h => run_c hT (round x G w h)
end
/-! ### the same in a region that draws its order -/
def runQ (P : Program) (T : Nat → Option TI) (n : Nat) (ops : Array Oper) (C : World → Prop) : List Oper → (Fm → Prop) → Fm → Prop
  | [], K, F => K F
  | o :: rest, K, F =>
    match o.guard with
    | none => match pureF T o.op F, o.dst with
      | some v, some d => bif Nat.blt d n then runQ P T n ops C rest K (upd F d v) else wq P n ops C (o :: rest) K F
      | _, _ => wq P n ops C (o :: rest) K F
    | some (j, b) => match ops[j]? with
      | none => wq P n ops C (o :: rest) K F
      | some oj => match oj.dst, o.dst with
        | some t, some d => bif Nat.blt t n && Nat.blt d n then
            (match F t with
            | .bool c =>
              gs c
                (match b with
                | true => match pureF T o.op (upd F t (.bool true)) with
                  | some v => runQ P T n ops C rest K (upd (upd F t (.bool true)) d v)
                  | none => wq P n ops C (ung o :: rest) K (upd F t (.bool true))
                | false => runQ P T n ops C rest K (upd (upd F t (.bool true)) d undef))
                (match b with
                | true => runQ P T n ops C rest K (upd (upd F t (.bool false)) d undef)
                | false => match pureF T o.op (upd F t (.bool false)) with
                  | some v => runQ P T n ops C rest K (upd (upd F t (.bool false)) d v)
                  | none => wq P n ops C (ung o :: rest) K (upd F t (.bool false)))
            | v => gs (runG.isUndef v) (runQ P T n ops C rest K (upd F d undef)) (wq P n ops C (o :: rest) K F))
          else wq P n ops C (o :: rest) K F
        | _, _ => wq P n ops C (o :: rest) K F
section
variable {P : Program} {T : Nat → Option TI} {n : Nat} {Q : Post} {F : Fm} {w : World} {K : Fm → Prop} {C : World → Prop}
theorem wq_of_ung {ops : Array Oper} {o : Oper} {rest : List Oper} {j : Nat} {b : Bool} {oj : Oper} {t : Tmp} (hg : o.guard = some (j, b)) (hj : ops[j]? = some oj) (ht : oj.dst = some t) (hb : F t = .bool b) (hn : Nat.blt t n = true) {d : Nat} (hd : o.dst = some d) (hdn : Nat.blt d n = true) (hT : TabOk P T)
    (k : match pureF T o.op F with | some v => wq P n ops C rest K (upd F d v) | none => wq P n ops C (ung o :: rest) K F) : wq P n ops C (o :: rest) K F := by
  refine wq_gT hg hj ht hb hn ?_
  split at k
  · rename_i v hv
    exact wq_P (o := ung o) hT hv rfl hd hdn k
  · exact k
theorem run_q (hT : TabOk P T) {ops : Array Oper} : ∀ {rest : List Oper} {F : Fm}, runQ P T n ops C rest K F → wq P n ops C rest K F
  | [], F, h => wq_nil h
  | o :: rest, F, h => by
    unfold runQ at h
    split at h
    · rename_i hg
      split at h
      · rename_i v d hv hd
        cases hb : Nat.blt d n
        · rw [hb] at h; exact h
        · rw [hb] at h; exact wq_P hT hv hg hd hb (run_q hT h)
      · exact h
    · rename_i j b hg
      split at h
      · exact h
      · rename_i oj hj
        split at h
        · rename_i t d ht hd
          cases hbb : (Nat.blt t n && Nat.blt d n) with
          | false => rw [hbb] at h; exact h
          | true =>
            rw [hbb] at h
            simp only [Bool.and_eq_true] at hbb
            simp only [cond_true] at h
            split at h
            · rename_i c hc
              cases c with
              | true =>
                have e : upd F t (.bool true) = F := upd_self F t _ hc
                rw [e] at h
                cases b with
                | true =>
                  refine wq_of_ung hg hj ht hc hbb.1 hd hbb.2 hT ?_
                  have h' : (match pureF T o.op F with | some v => runQ P T n ops C rest K (upd F d v) | none => wq P n ops C (ung o :: rest) K F) := h
                  revert h'
                  cases pureF T o.op F with
                  | some v => exact fun h' => run_q hT h'
                  | none => exact fun h' => h'
                | false =>
                  have h' : runQ P T n ops C rest K (upd F d undef) := h
                  exact wq_gF hg hj ht hc rfl hbb.1 hd hbb.2 (run_q hT h')
              | false =>
                have e : upd F t (.bool false) = F := upd_self F t _ hc
                rw [e] at h
                cases b with
                | false =>
                  refine wq_of_ung hg hj ht hc hbb.1 hd hbb.2 hT ?_
                  have h' : (match pureF T o.op F with | some v => runQ P T n ops C rest K (upd F d v) | none => wq P n ops C (ung o :: rest) K F) := h
                  revert h'
                  cases pureF T o.op F with
                  | some v => exact fun h' => run_q hT h'
                  | none => exact fun h' => h'
                | true =>
                  have h' : runQ P T n ops C rest K (upd F d undef) := h
                  exact wq_gF hg hj ht hc rfl hbb.1 hd hbb.2 (run_q hT h')
            · generalize hv : F t = v at h
              cases hu : runG.isUndef v
              · rw [hu] at h; exact h
              · rw [hu] at h
                have : v = undef := by
                  unfold runG.isUndef at hu
                  split at hu
                  · rename_i vs; unfold undef; simp at hu; rw [hu]
                  · cases hu
                rw [this] at hv
                exact wq_gU hg hj ht hv hbb.1 hd hbb.2 (run_q hT h)
        · exact h
theorem wq_Lag (hT : TabOk P T) {ops : Array Oper} {o : Oper} {rest : List Oper} {t t' : TypeId} {x : Operand} {g : Nat} {cs : List Value} {fr : Nat × Nat} (hb : w.heap[g]? = some (.cells cs.toArray t' fr)) (hop : o.op = .load t x) (hx : ev F x = .pointer (some ⟨g, 0, none⟩)) (h1 : aggT T t cs.length = true) (hg : o.guard = none) {d : Nat} (hd : o.dst = some d) (hn : Nat.blt d n = true)
    (k : wq P n ops (Bw w) rest K (upd F d (.agg cs.toArray))) : wq P n ops (Bw w) (o :: rest) K F := wq_La hT (cellsAt_blk hb cs 0 0 (by simp)) hop hx h1 hg hd hn k
theorem wc_qr {id : Nat} {l : List Oper} (hT : TabOk P T) (hm : P.follows .mixedOrders = true) (hB : Region.lexB .any l.toArray = true) (h : runQ P T n l.toArray (Bw w) l (fun F' => ∀ w', Below w.heap.size w w' → Q.n F' w') F) : wc P n (.region id l.toArray true) Q F w :=
  wc_q hm hB (by
    have := run_q hT h
    have mono : (fun F' => ∀ w', Below w.heap.size w w' → Q.n F' w') = (fun F' => ∀ w', Below w.heap.size w w' → PN Q F' w') := by unfold PN; rfl
    rw [← mono]; exact this)
end
attribute [irreducible] Fin
end Go.Proofs.YtkjbkalakafnlaaDoor
