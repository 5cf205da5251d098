/- The walk of SolveChain. -/
import Derived.Test.YtkjbkalakafnlaaDoorXL2005
namespace Go.Proofs.YtkjbkalakafnlaaDoor
open Go.RowKit
set_option linter.unusedVariables false
set_option linter.unusedSimpArgs false
set_option maxRecDepth 100000
/-- A system of the call's own, whose two rows grow. -/
structure Two (base g : Nat) (n : Int) (w : World) (vx vy : Value) (xs : List Cell) (ys : List Con) : Prop where
  x : ∃ flat, w.ownsRow base 71 3 vx xs.length flat ∧ ∀ w', Elems 3 dCell w' flat xs
  y : ∃ flat, w.ownsRow base 66 4 vy ys.length flat ∧ ∀ w', Elems 4 dCon w' flat ys
  blk : w.heap[g]? = some (.cells #[.int .i64 n, vx, vy] 54 (0, 0))
  xg : vx.ownBlock ≠ some g
  yg : vy.ownBlock ≠ some g
  xy : ∀ k, vx.ownBlock = some k → vy.ownBlock ≠ some k
section
variable {base g : Nat} {n : Int} {w w1 u2 u3 : World} {vx vy : Value} {xs : List Cell} {ys : List Con}
theorem Two.up (h : Two base g n w vx vy xs ys) (hb : Below w.heap.size w w1) : Two base g n w1 vx vy xs ys := by
  obtain ⟨fx, o1, e1⟩ := h.x
  obtain ⟨fy, o2, e2⟩ := h.y
  exact ⟨⟨fx, o1.kept (grown_of hb) (Classical.em _), e1⟩, ⟨fy, o2.kept (grown_of hb) (Classical.em _), e2⟩, blk_up hb h.blk, h.xg, h.yg, h.xy⟩
theorem own_ne2 {v v' : Value} (h : ∀ k, v.ownBlock = some k → v'.ownBlock ≠ some k) : v.ownBlock = none ∨ v.ownBlock ≠ v'.ownBlock := by
  cases hv : v.ownBlock with
  | none => exact .inl rfl
  | some k => exact .inr fun e => h k hv e.symm
theorem Two.pushY (h : Two base g n w vx vy xs ys) {cs fy : List Value} {E : Option Addr} {ec : Nat} {y : Con} (hown : w.ownsRow base 66 4 vy ys.length fy) (hel : ∀ w', Elems 4 dCon w' fy ys)
    (hown2 : u2.ownsRow base 66 4 (.slice E (ys.length + 1) ec) (ys.length + 1) (fy ++ cs)) (hg2 : w.grownBy u2 vy.ownBlock)
    (hob : (Value.slice E (ys.length + 1) ec).ownBlock = vy.ownBlock ∨ (Value.slice E (ys.length + 1) ec).ownBlock = some w.heap.size)
    (hp : Put u2 u3 g [.int .i64 n, vx, .slice E (ys.length + 1) ec] 54) (hc : cs.length = 4) (hy : ∀ w', dCon w' cs y) : Two base g n u3 vx (.slice E (ys.length + 1) ec) xs (ys ++ [y]) := by
  obtain ⟨fx, o1, e1⟩ := h.x
  have hyg : (Value.slice E (ys.length + 1) ec).ownBlock ≠ some g := fun e => by
    rcases hob with q | q
    · exact h.yg (q.symm.trans e)
    · rw [q] at e
      injection e with e
      have := blk_lt h.blk
      omega
  refine ⟨⟨fx, (o1.kept hg2 (own_ne2 h.xy)).kept hp.grown (.inr h.xg), e1⟩, ⟨fy ++ cs, ?_, fun w' => (hel w').push hc (hy w')⟩, hp.blk, h.xg, hyg, fun k hk e => ?_⟩
  · rw [show (ys ++ [y]).length = ys.length + 1 by simp]
    exact hown2.kept hp.grown (.inr hyg)
  · rcases hob with q | q
    · exact h.xy k hk (q.symm.trans e)
    · rw [q] at e
      injection e with e
      have := (o1.lt k hk).2
      omega
theorem Two.pushX (h : Two base g n w vx vy xs ys) {cs fx : List Value} {E : Option Addr} {ec : Nat} {x : Cell} (hown : w.ownsRow base 71 3 vx xs.length fx) (hel : ∀ w', Elems 3 dCell w' fx xs)
    (hown2 : u2.ownsRow base 71 3 (.slice E (xs.length + 1) ec) (xs.length + 1) (fx ++ cs)) (hg2 : w.grownBy u2 vx.ownBlock)
    (hob : (Value.slice E (xs.length + 1) ec).ownBlock = vx.ownBlock ∨ (Value.slice E (xs.length + 1) ec).ownBlock = some w.heap.size)
    (hp : Put u2 u3 g [.int .i64 n, .slice E (xs.length + 1) ec, vy] 54) (hc : cs.length = 3) (hx : ∀ w', dCell w' cs x) : Two base g n u3 (.slice E (xs.length + 1) ec) vy (xs ++ [x]) ys := by
  obtain ⟨fy, o1, e1⟩ := h.y
  have hxg : (Value.slice E (xs.length + 1) ec).ownBlock ≠ some g := fun e => by
    rcases hob with q | q
    · exact h.xg (q.symm.trans e)
    · rw [q] at e
      injection e with e
      have := blk_lt h.blk
      omega
  refine ⟨⟨fx ++ cs, ?_, fun w' => (hel w').push hc (hx w')⟩, ⟨fy, (o1.kept hg2 (own_ne2 fun k hk e => h.xy k e hk)).kept hp.grown (.inr h.yg), e1⟩, hp.blk, hxg, h.yg, fun k hk e => ?_⟩
  · rw [show (xs ++ [x]).length = xs.length + 1 by simp]
    exact hown2.kept hp.grown (.inr hxg)
  · rcases hob with q | q
    · exact h.xy k (q.symm.trans hk) e
    · rw [q] at hk
      injection hk with hk
      have := (o1.lt k e).2
      omega
theorem Two.below (h : Two base g n w vx vy xs ys) {w0 : World} (hb : Below w0.heap.size w0 w) (hbase : w0.heap.size ≤ base) (hg : w0.heap.size ≤ g) {E : Option Addr} {l c i : Nat} {fl : List Value} {e : TypeId} {sz k : Nat} {v : Value} (ho : w.ownsRow base e sz v k fl)
    (hg2 : w.grownBy u2 v.ownBlock) {cs : List Value} {t : TypeId} (hp : Put u2 u3 g cs t) : Below w0.heap.size w0 u3 := by
  have hB2 : Below w0.heap.size w0 u2 := hb.grown hg2 hb.size (fun k hk => by have := (ho.lt k hk).1; omega)
  exact hp.below hB2 hg hB2.size
end
def cellsC (k i : Nat) : List Cell := ⟨false, (k : Int) + 1, []⟩ :: (List.range i).map fun (j : Nat) => ⟨false, (k : Int) + 2 + j, []⟩
def consC (k m i : Nat) : List Con := [⟨1, k, 0, []⟩, ⟨4, k, (k : Int) - 1, []⟩] ++ ((List.range m).map fun (j : Nat) => ⟨2, (k : Int) - 1 - j, (k : Int) - 1 - j - 1, []⟩) ++ (List.range i).map fun (j : Nat) => ⟨1, 0, 1 + (j : Int), []⟩
theorem cellsC_next (k i : Nat) : cellsC k (i + 1) = cellsC k i ++ [⟨false, (k : Int) + 2 + (i : Nat), []⟩] := by simp [cellsC, List.range_succ]
theorem consC_copy (k m : Nat) : consC k (m + 1) 0 = consC k m 0 ++ [⟨2, (k : Int) - 1 - (m : Nat), (k : Int) - 1 - (m : Nat) - 1, []⟩] := by simp [consC, List.range_succ]
theorem consC_next (k m i : Nat) : consC k m (i + 1) = consC k m i ++ [⟨1, 0, 1 + ((i : Nat) : Int), []⟩] := by simp [consC, List.range_succ]
theorem cellsC_len (k i : Nat) : (cellsC k i).length = i + 1 := by simp [cellsC]
theorem consC_len (k m i : Nat) : (consC k m i).length = 2 + m + i := by simp [consC]; omega
theorem mem_consC {k m i : Nat} {c : Con} : c ∈ consC k m i ↔ c = ⟨1, k, 0, []⟩ ∨ c = ⟨4, k, (k : Int) - 1, []⟩ ∨ (∃ j : Nat, j < m ∧ c = ⟨2, (k : Int) - 1 - j, (k : Int) - 1 - j - 1, []⟩) ∨ ∃ j : Nat, j < i ∧ c = ⟨1, 0, 1 + (j : Int), []⟩ := by
  simp only [consC, List.mem_append, List.mem_cons, List.not_mem_nil, or_false, List.mem_map, List.mem_range]
  constructor
  · rintro (((h | h) | ⟨j, hj, rfl⟩) | ⟨j, hj, rfl⟩)
    · exact .inl h
    · exact .inr (.inl h)
    · exact .inr (.inr (.inl ⟨j, hj, rfl⟩))
    · exact .inr (.inr (.inr ⟨j, hj, rfl⟩))
  · rintro (h | h | ⟨j, hj, rfl⟩ | ⟨j, hj, rfl⟩)
    · exact .inl (.inl (.inl h))
    · exact .inl (.inl (.inr h))
    · exact .inl (.inr ⟨j, hj, rfl⟩)
    · exact .inr ⟨j, hj, rfl⟩
def chQ (k v c : Nat) : Bool := (decide (v < k) && decide (1 ≤ c)) || (decide (v = k) && decide (c = 0)) || (decide (v = k + 1) && decide (1 ≤ c))
def chM (k o : Nat) : Mat := (List.range (k + 2 + o)).map fun v => (List.range (1 + o)).map fun c => chQ k v c
theorem chM_row {k o v : Nat} (h : v < k + 2 + o) : (chM k o)[v]! = (List.range (1 + o)).map fun c => chQ k v c := by
  rw [getElem!_pos _ v (by simpa [chM] using h)]
  simp [chM]
theorem chM_sh (k o : Nat) : Shape (k + 2 + o) (1 + o) (chM k o) := ⟨by simp [chM], fun i hi => by rw [chM_row hi]; simp⟩
theorem chM_at {k o v c : Nat} : mg (chM k o) v c = true ↔ v < k + 2 + o ∧ c < 1 + o ∧ chQ k v c = true := by
  by_cases h : v < k + 2 + o ∧ c < 1 + o
  · unfold mg
    rw [chM_row h.1, getElem!_pos _ c (by simpa using h.2)]
    simp [h.1, h.2]
  · rw [mg_out (chM_sh k o) h]
    constructor
    · intro e; cases e
    · intro e; exact absurd ⟨e.1, e.2.1⟩ h
theorem chQ_iff {k v c : Nat} : chQ k v c = true ↔ (v < k ∧ 1 ≤ c) ∨ (v = k ∧ c = 0) ∨ (v = k + 1 ∧ 1 ≤ c) := by
  simp [chQ, or_assoc]
theorem chLeast {k o : Nat} (hk : 2 ≤ k) (ho : 1 ≤ o) : IsLeast ⟨((k + 2 + o : Nat) : Int), cellsC k o, consC k (k - 1) o⟩ (chM k o) := by
  refine ⟨?_, closed_mem.2 fun c hc => ?_, fun N hN v q h => ?_⟩
  · have := chM_sh k o
    rw [show 1 + o = (cellsC k o).length by rw [cellsC_len]; omega] at this
    exact this
  · rcases mem_consC.1 hc with rfl | rfl | ⟨j, hj, rfl⟩ | ⟨j, hj, rfl⟩
    · exact ⟨fun _ => chM_at.2 ⟨by show (k : Int).toNat < _; omega, by show (0 : Int).toNat < _; omega, chQ_iff.2 (.inr (.inl ⟨by show (k : Int).toNat = k; omega, rfl⟩))⟩, fun h => absurd h (show ¬ (1 : Int) = 2 by decide), fun h => absurd rfl h⟩
    · refine ⟨fun h => absurd h (show ¬ (4 : Int) = 1 by decide), fun h => absurd h (show ¬ (4 : Int) = 2 by decide), fun _ _ q hq hm => ?_⟩
      have hm : mg (chM k o) (k : Int).toNat q = true := hm
      have hq0 : q = 0 := by
        have := chQ_iff.1 (chM_at.1 hm).2.2
        omega
      subst hq0
      refine ⟨fun h => absurd h (show ¬ (4 : Int) = 3 by decide), fun _ _ => ?_, fun h => absurd h (show ¬ (4 : Int) = 5 by decide)⟩
      intro _ _ z hz
      have hz : mg (chM k o) ((k : Int) - 1).toNat z = true := hz
      show mg (chM k o) ((k : Int) + 1).toNat z = true
      have h1 := chM_at.1 hz
      have h2 := chQ_iff.1 h1.2.2
      exact chM_at.2 ⟨by omega, h1.2.1, chQ_iff.2 (.inr (.inr ⟨by omega, by omega⟩))⟩
    · refine ⟨fun h => absurd h (show ¬ (2 : Int) = 1 by decide), fun _ _ _ z hz => ?_, fun _ h => absurd rfl h⟩
      have hz : mg (chM k o) ((k : Int) - 1 - j - 1).toNat z = true := hz
      show mg (chM k o) ((k : Int) - 1 - j).toNat z = true
      have h1 := chM_at.1 hz
      have h2 := chQ_iff.1 h1.2.2
      exact chM_at.2 ⟨by omega, h1.2.1, chQ_iff.2 (.inl ⟨by omega, by omega⟩)⟩
    · exact ⟨fun _ => chM_at.2 ⟨by show (0 : Int).toNat < _; omega, by show (1 + (j : Int)).toNat < _; omega, chQ_iff.2 (.inl ⟨by show (0 : Int).toNat < k; omega, by show 1 ≤ (1 + (j : Int)).toNat; omega⟩)⟩, fun h => absurd h (show ¬ (1 : Int) = 2 by decide), fun h => absurd rfl h⟩
  · have hN := closed_mem.1 hN
    have h1 := chM_at.1 h
    have h0 : ∀ z, 1 ≤ z → z < 1 + o → mg N 0 z = true := fun z hz hz2 => by
      have := (hN _ (mem_consC.2 (.inr (.inr (.inr ⟨z - 1, by omega, rfl⟩))))).1 rfl
      have e : (1 + ((z - 1 : Nat) : Int)).toNat = z := by omega
      have this : mg N 0 (1 + ((z - 1 : Nat) : Int)).toNat = true := this
      rw [e] at this
      exact this
    have hall : ∀ u, u < k → ∀ z, 1 ≤ z → z < 1 + o → mg N u z = true := fun u => by
      induction u with
      | zero => exact fun _ => h0
      | succ u ih =>
        intro hu z hz hz2
        have hj := (hN _ (mem_consC.2 (.inr (.inr (.inl ⟨k - 2 - u, by omega, rfl⟩))))).2.1 rfl
        have hj := hj (show (0 : Int) ≤ (k : Int) - 1 - (k - 2 - u : Nat) by omega) (show (0 : Int) ≤ (k : Int) - 1 - (k - 2 - u : Nat) - 1 by omega) z
        have e1 : ((k : Int) - 1 - (k - 2 - u : Nat)).toNat = u + 1 := by omega
        have e2 : ((k : Int) - 1 - (k - 2 - u : Nat) - 1).toNat = u := by omega
        have hj : mg N ((k : Int) - 1 - (k - 2 - u : Nat) - 1).toNat z = true → mg N ((k : Int) - 1 - (k - 2 - u : Nat)).toNat z = true := hj
        rw [e1, e2] at hj
        exact hj (ih (by omega) z hz hz2)
    have hkk : mg N k 0 = true := (hN _ (mem_consC.2 (.inl rfl))).1 rfl
    rcases chQ_iff.1 h1.2.2 with ⟨h2, h3⟩ | ⟨h2, h3⟩ | ⟨h2, h3⟩
    · exact hall v h2 q h3 h1.2.1
    · subst h2 h3
      exact hkk
    · subst h2
      have hj := ((hN _ (mem_consC.2 (.inr (.inl rfl)))).2.2 (show ¬ (4 : Int) = 1 by decide) (show ¬ (4 : Int) = 2 by decide) 0 (by rw [cellsC_len]; omega) hkk).2.1 rfl rfl
      have hj := hj (show (0 : Int) ≤ (k : Int) + 1 by omega) (show (0 : Int) ≤ (k : Int) - 1 by omega) q
      have e1 : ((k : Int) - 1).toNat = k - 1 := by omega
      have hj : mg N ((k : Int) - 1).toNat q = true → mg N ((k : Int) + 1).toNat q = true := hj
      rw [e1] at hj
      exact hj (hall (k - 1) (by omega) q h3 h1.2.1)
theorem chRight {k o : Nat} (hk : 2 ≤ k) (hk2 : k ≤ 100) (ho : 1 ≤ o) (ho2 : o ≤ 5) : rightB ⟨((k + 2 + o : Nat) : Int), cellsC k o, consC k (k - 1) o⟩ = true := by
  simp only [rightB, bigOk, Bool.and_eq_true, decide_eq_true_eq, List.all_eq_true, cellsC_len, consC_len]
  refine ⟨⟨⟨⟨⟨by omega, by omega⟩, by omega⟩, by omega⟩, fun c hc => ?_⟩, fun c hc => ?_⟩
  · have : ∃ v : Int, 0 ≤ v ∧ v < ((k + 2 + o : Nat) : Int) ∧ c = ⟨false, v, []⟩ := by
      simp only [cellsC, List.mem_cons, List.mem_map, List.mem_range] at hc
      rcases hc with rfl | ⟨j, hj, rfl⟩
      · exact ⟨_, by omega, by omega, rfl⟩
      · exact ⟨_, by omega, by omega, rfl⟩
    obtain ⟨v, h1, h2, rfl⟩ := this
    simp [cellOk, inR, h1]
    omega
  · rcases mem_consC.1 hc with rfl | rfl | ⟨j, hj, rfl⟩ | ⟨j, hj, rfl⟩ <;> simp [conOk, inR] <;> omega
theorem chRowA {k o v : Nat} (h : v < k ∨ v = k + 1) (hv : v < k + 2 + o) (ho : 1 ≤ o) (ho2 : o ≤ 5) : (rowPts (chM k o)[v]!).length = o ∧ (rowPts (chM k o)[v]!)[0]! = 1 := by
  rw [chM_row hv]
  have e : (fun c => chQ k v c) = fun c => decide (1 ≤ c) := by
    funext c
    rw [Bool.eq_iff_iff, chQ_iff, decide_eq_true_eq]
    omega
  rw [e]
  have : o = 1 ∨ o = 2 ∨ o = 3 ∨ o = 4 ∨ o = 5 := by omega
  rcases this with rfl | rfl | rfl | rfl | rfl <;> decide
theorem chRowB {k o : Nat} (ho : 1 ≤ o) (ho2 : o ≤ 5) : (rowPts (chM k o)[k]!).length = 1 := by
  rw [chM_row (by omega)]
  have e : (fun c => chQ k k c) = fun c => decide (c = 0) := by
    funext c
    rw [Bool.eq_iff_iff, chQ_iff, decide_eq_true_eq]
    omega
  rw [e]
  have : o = 1 ∨ o = 2 ∨ o = 3 ∨ o = 4 ∨ o = 5 := by omega
  rcases this with rfl | rfl | rfl | rfl | rfl <;> decide
end Go.Proofs.YtkjbkalakafnlaaDoor
