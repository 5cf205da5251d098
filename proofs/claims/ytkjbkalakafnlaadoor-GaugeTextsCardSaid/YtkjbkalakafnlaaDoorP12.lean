/- What it is that a system may be (numbers alone). -/
import Derived.Test.YtkjbkalakafnlaaDoorA1
namespace Go.Proofs.YtkjbkalakafnlaaDoor
set_option linter.unusedVariables false
set_option linter.unusedSimpArgs false
def inR (a b c : Int) : Bool := decide (b ≤ a) && decide (a < c)
def cellOk (vars : Int) (c : Cell) : Bool := inR c.v 0 vars && decide (c.args.length ≤ 6) && (c.fn || decide (c.args.length = 0)) && c.args.all fun n => inR n 0 vars
def conOk (vars : Int) (cells : Nat) (c : Con) : Bool :=
  decide (1 ≤ c.k) && decide (c.k ≤ 5) && inR c.a (if c.k = 5 then -1 else 0) vars && inR c.b 0 (if c.k = 1 then (cells : Int) else vars) && decide (c.args.length ≤ 6) &&
    (decide (c.k = 5) || decide (c.args.length = 0)) && c.args.all fun n => inR n (-1) vars
def bigOk (s : Sys) : Bool := decide (0 ≤ s.vars) && decide (s.vars ≤ 16384) && decide (s.cells.length ≤ 16384) && decide (s.cons.length ≤ 131072)
def rightB (s : Sys) : Bool := bigOk s && s.cells.all (cellOk s.vars) && s.cons.all (conOk s.vars s.cells.length)

theorem right_big {s : Sys} (h : s.vars < 0 ∨ 16384 < s.vars ∨ (16384 : Int) < s.cells.length ∨ (131072 : Int) < s.cons.length) : rightB s = false := by
  have : bigOk s = false := by
    unfold bigOk
    simp only [Bool.and_eq_false_iff, decide_eq_false_iff_not]
    omega
  simp [rightB, this]
def cellHead (vars : Int) (c : Cell) : Bool := inR c.v 0 vars && decide (c.args.length ≤ 6) && (c.fn || decide (c.args.length = 0))
theorem mem_get {α : Type} [Inhabited α] {xs : List α} {k : Nat} (hk : k < xs.length) : xs[k]! ∈ xs := by
  rw [getElem!_pos xs k hk]; exact List.getElem_mem hk
theorem all_false {α : Type} [Inhabited α] {p : α → Bool} {xs : List α} {k : Nat} (hk : k < xs.length) (h : p xs[k]! = false) : xs.all p = false := by
  rw [List.all_eq_false]
  exact ⟨_, mem_get hk, by rw [h]; simp⟩
theorem all_true {α : Type} [Inhabited α] {p : α → Bool} {xs : List α} (h : ∀ k, k < xs.length → p xs[k]! = true) : xs.all p = true := by
  rw [List.all_eq_true]
  intro x hx
  obtain ⟨k, hk, rfl⟩ := List.getElem_of_mem hx
  have := h k hk
  rwa [getElem!_pos xs k hk] at this
theorem right_cell {s : Sys} {k : Nat} (hk : k < s.cells.length) (h : cellOk s.vars s.cells[k]! = false) : rightB s = false := by
  simp [rightB, all_false hk h]
theorem cell_head {vars : Int} {c : Cell} (h : inR c.v 0 vars = false ∨ (6 : Int) < c.args.length ∨ (c.fn = false ∧ 0 < c.args.length)) : cellOk vars c = false := by
  unfold cellOk
  rcases h with h | h | ⟨h, h'⟩
  · simp [h]
  · simp [show ¬ c.args.length ≤ 6 by omega]
  · simp [h, show ¬ c.args.length = 0 by omega]
theorem cell_bad1 {vars : Int} {c : Cell} (h : inR c.v 0 vars = false) : cellOk vars c = false := cell_head (.inl h)
theorem cell_bad2 {vars : Int} {c : Cell} (h : (6 : Int) < c.args.length) : cellOk vars c = false := cell_head (.inr (.inl h))
theorem cell_bad3 {vars : Int} {c : Cell} (h : c.fn = false) (h' : (0 : Int) < c.args.length) : cellOk vars c = false := cell_head (.inr (.inr ⟨h, by omega⟩))
theorem cell_arg {vars : Int} {c : Cell} {j : Nat} (hj : j < c.args.length) (h : inR c.args[j]! 0 vars = false) : cellOk vars c = false := by
  unfold cellOk
  rw [all_false (p := fun n => inR n 0 vars) hj h]
  simp
theorem cell_ok {vars : Int} {c : Cell} (h0 : inR c.v 0 vars = true) (h1 : (c.args.length : Int) ≤ 6) (h2 : c.fn = true ∨ c.args.length = 0) (h3 : ∀ j, j < c.args.length → inR c.args[j]! 0 vars = true) : cellOk vars c = true := by
  unfold cellOk
  rw [all_true (p := fun n => inR n 0 vars) h3, h0]
  rcases h2 with h2 | h2
  · simp [h2]; omega
  · simp [h2]
theorem right_con {s : Sys} {k : Nat} (hk : k < s.cons.length) (h : conOk s.vars s.cells.length s.cons[k]! = false) : rightB s = false := by
  simp [rightB, all_false hk h]
theorem right_all {s : Sys} (h0 : 0 ≤ s.vars) (h1 : s.vars ≤ 16384) (h2 : (s.cells.length : Int) ≤ 16384) (h3 : (s.cons.length : Int) ≤ 131072)
    (hc : ∀ k, k < s.cells.length → cellOk s.vars s.cells[k]! = true) (hn : ∀ k, k < s.cons.length → conOk s.vars s.cells.length s.cons[k]! = true) : rightB s = true := by
  unfold rightB bigOk
  rw [all_true hc, all_true hn]
  simp; omega
theorem all_ge {p : Nat → Prop} {k n : Nat} (h : ∀ j, j < k → p j) (hk : ¬ k < n) : ∀ j, j < n → p j := fun j hj => h j (by omega)
theorem all_succ {p : Nat → Prop} {k : Nat} (h : ∀ j, j < k → p j) (hk : p k) : ∀ j, j < k + 1 → p j := fun j hj => by
  rcases Nat.lt_or_ge j k with h1 | h1
  · exact h j h1
  · have : j = k := by omega
    subst this; exact hk
/-- All of it but the arguments. -/
def conHead (vars : Int) (cells : Nat) (c : Con) : Bool :=
  decide (1 ≤ c.k) && decide (c.k ≤ 5) && inR c.a (if c.k = 5 then -1 else 0) vars && inR c.b 0 (if c.k = 1 then (cells : Int) else vars) && decide (c.args.length ≤ 6) &&
    (decide (c.k = 5) || decide (c.args.length = 0))
theorem con_head {vars : Int} {cells : Nat} {c : Con} (h : conHead vars cells c = false) : conOk vars cells c = false := by
  unfold conOk
  unfold conHead at h
  rw [h]; rfl
theorem con_arg {vars : Int} {cells : Nat} {c : Con} {j : Nat} (hj : j < c.args.length) (h : inR c.args[j]! (-1) vars = false) : conOk vars cells c = false := by
  unfold conOk
  rw [all_false (p := fun n => inR n (-1) vars) hj h]
  simp
theorem con_ok {vars : Int} {cells : Nat} {c : Con} (h : conHead vars cells c = true) (h3 : ∀ j, j < c.args.length → inR c.args[j]! (-1) vars = true) : conOk vars cells c = true := by
  unfold conOk
  unfold conHead at h
  rw [all_true (p := fun n => inR n (-1) vars) h3, h]; rfl
section
variable {vars : Int} {cells : Nat} {c : Con}
theorem con_badn (h : c.k < 1 ∨ 5 < c.k ∨ (6 : Int) < c.args.length ∨ (¬ c.k = 5 ∧ (0 : Int) < c.args.length)) : conHead vars cells c = false := by
  unfold conHead
  rcases h with h | h | h | ⟨h, h'⟩
  · simp [show ¬ 1 ≤ c.k by omega]
  · simp [show ¬ c.k ≤ 5 by omega]
  · simp [show ¬ c.args.length ≤ 6 by omega]
  · simp [h, show ¬ c.args.length = 0 by omega, show ¬ c.args = [] by intro e; rw [e] at h'; simp at h']
theorem con_badA5 (h5 : c.k = 5) (h : inR c.a (-1) vars = false) : conHead vars cells c = false := by unfold conHead; simp [h5, h]
theorem con_badA (h5 : ¬ c.k = 5) (h : inR c.a 0 vars = false) : conHead vars cells c = false := by unfold conHead; simp [h5, h]
theorem con_badB1 (h1 : c.k = 1) (h : inR c.b 0 cells = false) : conHead vars cells c = false := by unfold conHead; simp [h1, h]
theorem con_badB (h1 : ¬ c.k = 1) (h : inR c.b 0 vars = false) : conHead vars cells c = false := by unfold conHead; simp [h1, h]
theorem con_good5 (h5 : c.k = 5) (ha : inR c.a (-1) vars = true) (hb : inR c.b 0 vars = true) (hl : (c.args.length : Int) ≤ 6) : conHead vars cells c = true := by
  unfold conHead; simp [h5, ha, hb]; omega
theorem con_good1 (h1 : c.k = 1) (ha : inR c.a 0 vars = true) (hb : inR c.b 0 cells = true) (hl : ¬ (0 : Int) < c.args.length) : conHead vars cells c = true := by
  have : c.args = [] := List.eq_nil_of_length_eq_zero (by omega)
  unfold conHead; simp [h1, ha, hb, this]
theorem con_goodk (h1 : 1 ≤ c.k) (h2 : c.k ≤ 5) (h3 : ¬ c.k = 1) (h4 : ¬ c.k = 5) (ha : inR c.a 0 vars = true) (hb : inR c.b 0 vars = true) (hl : ¬ (0 : Int) < c.args.length) : conHead vars cells c = true := by
  have : c.args = [] := List.eq_nil_of_length_eq_zero (by omega)
  unfold conHead; simp [h1, h2, h3, h4, ha, hb, this]
end
theorem len0_all {p : Int → Bool} {l : List Int} : (decide ((l.length : Int) = 0) && l.all p) = decide ((l.length : Int) = 0) := by
  cases l with
  | nil => simp
  | cons a l => simp; omega
section
variable {vars : Int} {cells : Nat} {c : Con}
theorem con_val1 (h1 : c.k = 1) : conOk vars cells c = (inR c.a 0 vars && inR c.b 0 cells && decide ((c.args.length : Int) = 0)) := by
  unfold conOk
  cases hl : c.args with
  | nil => simp [h1, hl]
  | cons a l => simp [h1, hl]; intros; omega
theorem con_valk (h1 : 2 ≤ c.k) (h2 : c.k ≤ 4) : conOk vars cells c = (inR c.a 0 vars && inR c.b 0 vars && decide ((c.args.length : Int) = 0)) := by
  unfold conOk
  have e1 : ¬ c.k = 1 := by omega
  have e5 : ¬ c.k = 5 := by omega
  cases hl : c.args with
  | nil => simp [e1, e5, hl, show 1 ≤ c.k by omega, show c.k ≤ 5 by omega]
  | cons a l => simp [e1, e5, hl]; intros; omega
theorem con_val5 (h5 : c.k = 5) (hall : (c.args.all fun n => inR n (-1) vars) = true) : conOk vars cells c = (inR c.a (-1) vars && inR c.b 0 vars && decide ((c.args.length : Int) ≤ 6)) := by
  unfold conOk
  rw [hall]
  simp [h5]
  congr 1
  rw [decide_eq_decide]
  omega
theorem con_valn (h : c.k < 1 ∨ 5 < c.k) : conOk vars cells c = false := con_head (con_badn (by omega))
end
theorem con_facts {vars : Int} {cells : Nat} {c : Con} (h : conHead vars cells c = true) : 1 ≤ c.k ∧ c.k ≤ 5 ∧ inR c.a (if c.k = 5 then -1 else 0) vars = true ∧ inR c.b 0 (if c.k = 1 then (cells : Int) else vars) = true ∧
    c.args.length ≤ 6 ∧ (c.k = 5 ∨ c.args.length = 0) := by
  simpa [conHead, and_assoc] using h
end Go.Proofs.YtkjbkalakafnlaaDoor
