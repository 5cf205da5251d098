/- Several texts of one claim in one file: V20 F03 H03. -/
import Derived.Test.YtkjbkalakafnlaaDoorZ7
import Derived.Test.YtkjbkalakafnlaaDoorZ6
/- Plain: what is in each variable, what of it was looked at, into which it goes: what grows, and what it comes to (no program in sight). -/
namespace Go.Proofs.YtkjbkalakafnlaaDoor
open Go.RowKit
set_option linter.unusedVariables false
set_option linter.unusedSimpArgs false
abbrev Rel := Nat → Nat → Bool
structure St where
  inn : Rel
  don : Rel
  too : Rel
  work : List Nat
  pops : Nat
def matB (n c : Nat) (f : Rel) : Mat := (List.range n).map fun v => (List.range c).map fun o => f v o
theorem matB_shape (n c : Nat) (f : Rel) : Shape n c (matB n c f) := ⟨by simp [matB], fun i hi => by rw [getElem!_pos _ i (by simpa [matB] using hi)]; simp [matB]⟩
theorem mg_matB {n c : Nat} (f : Rel) {v o : Nat} (hv : v < n) (ho : o < c) : mg (matB n c f) v o = f v o := by
  unfold mg
  rw [getElem!_pos (matB n c f) v (by simpa [matB] using hv)]
  simp only [matB, List.getElem_map, List.getElem_range]
  rw [getElem!_pos _ o (by simpa using ho)]
  simp
theorem matB_le {n c : Nat} {f g : Rel} (h : ∀ v o, f v o = true → g v o = true) : LeM (matB n c f) (matB n c g) := fun v o e => by
  by_cases hv : v < n ∧ o < c
  · rw [mg_matB _ hv.1 hv.2] at e ⊢; exact h v o e
  · rw [mg_out (matB_shape n c f) hv] at e; cases e
theorem cnt_mono {n c : Nat} {f g : Rel} (h : ∀ v o, f v o = true → g v o = true) : cnt (matB n c f) ≤ cnt (matB n c g) := by
  by_cases e : matB n c g = matB n c f
  · rw [e]; exact Nat.le_refl _
  · exact Nat.le_of_lt (cnt_lt (matB_shape n c f) (matB_shape n c g) (matB_le h) e)
theorem cnt_new {n c : Nat} {f g : Rel} (h : ∀ v o, f v o = true → g v o = true) {v o : Nat} (hv : v < n) (ho : o < c) (h0 : f v o = false) (h1 : g v o = true) : cnt (matB n c f) < cnt (matB n c g) :=
  cnt_lt (matB_shape n c f) (matB_shape n c g) (matB_le h) fun e => by
    have h2 := mg_matB (n := n) (c := c) g hv ho
    rw [e, mg_matB f hv ho, h0, h1] at h2
    cases h2
/-- Nothing is but what is to be: of numbers below n, of objects below c. -/
structure Dom (n c : Nat) (s : St) : Prop where
  inn : ∀ v o, s.inn v o = true → v < n ∧ o < c
  don : ∀ v o, s.don v o = true → s.inn v o = true
  too : ∀ a b, s.too a b = true → a < n ∧ b < n
  work : ∀ v ∈ s.work, v < n
/-- What all that keep the constraints have, and more isn't here. -/
structure Sound (s : Sys) (t : St) : Prop where
  inn : ∀ N, ClosedM s N → ∀ v o, t.inn v o = true → mg N v o = true
  too : ∀ N, ClosedM s N → ∀ a b, t.too a b = true → ∀ o, mg N a o = true → mg N b o = true
/-- What grew is to be looked at; it is paid for; a new edge has had all that was looked at. -/
structure Grow (n c : Nat) (s t : St) : Prop where
  inn : ∀ v o, s.inn v o = true → t.inn v o = true
  too : ∀ a b, s.too a b = true → t.too a b = true
  don : t.don = s.don
  pops : t.pops = s.pops
  work : ∀ v ∈ s.work, v ∈ t.work
  new : ∀ v, v ∉ t.work → t.inn v = s.inn v
  pay : t.work.length + cnt (matB n c s.inn) ≤ s.work.length + cnt (matB n c t.inn)
  edge : ∀ a b, t.too a b = true → s.too a b = true ∨ ∀ o, s.don a o = true → t.inn b o = true
section
variable {n c : Nat} {s t u : St}
theorem Grow.refl (s : St) : Grow n c s s := ⟨fun _ _ h => h, fun _ _ h => h, rfl, rfl, fun _ h => h, fun _ _ => rfl, Nat.le_refl _, fun _ _ h => .inl h⟩
theorem Grow.trans (h : Grow n c s t) (k : Grow n c t u) : Grow n c s u :=
  ⟨fun v o e => k.inn v o (h.inn v o e), fun a b e => k.too a b (h.too a b e), k.don.trans h.don, k.pops.trans h.pops, fun v e => k.work v (h.work v e),
   fun v e => (k.new v e).trans (h.new v fun e' => e (k.work v e')), by have := h.pay; have := k.pay; omega,
   fun a b e => (k.edge a b e).elim (fun e1 => (h.edge a b e1).imp id fun e2 o e3 => k.inn b o (e2 o e3)) (fun e1 => .inr fun o e2 => e1 o (by rw [h.don]; exact e2))⟩
end
/-- Some objects come into a variable. -/
structure FlowR (v : Nat) (l : Nat → Bool) (s t : St) : Prop where
  inn : ∀ x o, t.inn x o = (s.inn x o || (decide (x = v) && l o))
  don : t.don = s.don
  too : t.too = s.too
  pops : t.pops = s.pops
  work : t.work = s.work ∧ (t.inn v = s.inn v ∨ v ∈ s.work) ∨ t.work = s.work ++ [v] ∧ ∃ o, s.inn v o = false ∧ l o = true
/-- An edge, from now on. -/
structure EdgeR (a b : Nat) (s t : St) : Prop where
  inn : ∀ x o, t.inn x o = (s.inn x o || (decide (x = b) && s.inn a o && !decide (a = b)))
  don : t.don = s.don
  too : ∀ x y, t.too x y = (s.too x y || (decide (x = a) && decide (y = b) && !decide (a = b)))
  pops : t.pops = s.pops
  work : t.work = s.work ∧ (t.inn b = s.inn b ∨ b ∈ s.work) ∨ t.work = s.work ++ [b] ∧ ∃ o, s.inn b o = false ∧ s.inn a o = true
section
variable {n c : Nat} {s t u : St} {v a b : Nat} {l : Nat → Bool} {S : Sys}
theorem FlowR.grow (h : FlowR v l s t) (hv : v < n) (hl : ∀ o, l o = true → o < c) : Grow n c s t := by
  have hi : ∀ x o, s.inn x o = true → t.inn x o = true := fun x o e => by rw [h.inn, e]; rfl
  refine ⟨hi, fun x y e => by rw [h.too]; exact e, h.don, h.pops, fun x e => ?_, fun x e => ?_, ?_, fun x y e => .inl (by rw [← h.too]; exact e)⟩
  · rcases h.work with ⟨w, _⟩ | ⟨w, _⟩ <;> rw [w]
    · exact e
    · exact List.mem_append_left _ e
  · by_cases hx : x = v
    · subst hx
      rcases h.work with ⟨w, w2 | w2⟩ | ⟨w, _⟩
      · exact w2
      · rw [w] at e; exact absurd w2 e
      · exact absurd (by rw [w]; simp) e
    · funext o
      rw [h.inn]
      simp [hx]
  · rcases h.work with ⟨w, _⟩ | ⟨w, o, w1, w2⟩
    · rw [w]; have := cnt_mono (n := n) (c := c) hi; omega
    · have := cnt_new hi hv (hl o w2) w1 (by rw [h.inn, w2]; simp)
      rw [w, List.length_append, List.length_singleton]
      omega
theorem FlowR.dom (h : FlowR v l s t) (hd : Dom n c s) (hv : v < n) (hl : ∀ o, l o = true → o < c) : Dom n c t := by
  refine ⟨fun x o e => ?_, fun x o e => ?_, fun x y e => hd.too x y (by rw [← h.too]; exact e), fun x e => ?_⟩
  · rw [h.inn] at e
    simp only [Bool.or_eq_true, Bool.and_eq_true, decide_eq_true_eq] at e
    rcases e with e | ⟨rfl, e⟩
    · exact hd.inn x o e
    · exact ⟨hv, hl o e⟩
  · rw [h.don] at e; rw [h.inn, hd.don x o e]; rfl
  · rcases h.work with ⟨w, _⟩ | ⟨w, _⟩ <;> rw [w] at e
    · exact hd.work x e
    · rcases List.mem_append.1 e with e | e
      · exact hd.work x e
      · rw [List.mem_singleton.1 e]; exact hv
theorem FlowR.sound (h : FlowR v l s t) (hs : Sound S s) (hl : ∀ N, ClosedM S N → ∀ o, l o = true → mg N v o = true) : Sound S t := by
  refine ⟨fun N hN x o e => ?_, fun N hN x y e => hs.too N hN x y (by rw [← h.too]; exact e)⟩
  rw [h.inn] at e
  simp only [Bool.or_eq_true, Bool.and_eq_true, decide_eq_true_eq] at e
  rcases e with e | ⟨rfl, e⟩
  · exact hs.inn N hN x o e
  · exact hl N hN o e
theorem EdgeR.grow (h : EdgeR a b s t) (ha : a < n) (hb : b < n) (hd : Dom n c s) : Grow n c s t := by
  have hi : ∀ x o, s.inn x o = true → t.inn x o = true := fun x o e => by rw [h.inn, e]; rfl
  refine ⟨hi, fun x y e => by rw [h.too, e]; rfl, h.don, h.pops, fun x e => ?_, fun x e => ?_, ?_, fun x y e => ?_⟩
  · rcases h.work with ⟨w, _⟩ | ⟨w, _⟩ <;> rw [w]
    · exact e
    · exact List.mem_append_left _ e
  · by_cases hx : x = b
    · subst hx
      rcases h.work with ⟨w, w2 | w2⟩ | ⟨w, _⟩
      · exact w2
      · rw [w] at e; exact absurd w2 e
      · exact absurd (by rw [w]; simp) e
    · funext o
      rw [h.inn]
      simp [hx]
  · rcases h.work with ⟨w, _⟩ | ⟨w, o, w1, w2⟩
    · rw [w]; have := cnt_mono (n := n) (c := c) hi; omega
    · have hne : a ≠ b := fun e => by rw [e] at w2; rw [w1] at w2; cases w2
      have := cnt_new hi hb (hd.inn a o w2).2 w1 (by rw [h.inn, w2]; simp [hne])
      rw [w, List.length_append, List.length_singleton]
      omega
  · rw [h.too] at e
    simp only [Bool.or_eq_true, Bool.and_eq_true, decide_eq_true_eq] at e
    rcases e with e | ⟨⟨rfl, rfl⟩, e⟩
    · exact .inl e
    · refine .inr fun o e2 => ?_
      rw [h.inn, hd.don _ _ e2]
      simp at e
      simp [e]
theorem EdgeR.dom (h : EdgeR a b s t) (hd : Dom n c s) (ha : a < n) (hb : b < n) : Dom n c t := by
  refine ⟨fun x o e => ?_, fun x o e => ?_, fun x y e => ?_, fun x e => ?_⟩
  · rw [h.inn] at e
    simp only [Bool.or_eq_true, Bool.and_eq_true, decide_eq_true_eq] at e
    rcases e with e | ⟨⟨rfl, e⟩, _⟩
    · exact hd.inn x o e
    · exact ⟨hb, (hd.inn a o e).2⟩
  · rw [h.don] at e; rw [h.inn, hd.don x o e]; rfl
  · rw [h.too] at e
    simp only [Bool.or_eq_true, Bool.and_eq_true, decide_eq_true_eq] at e
    rcases e with e | ⟨⟨rfl, rfl⟩, _⟩
    · exact hd.too x y e
    · exact ⟨ha, hb⟩
  · rcases h.work with ⟨w, _⟩ | ⟨w, _⟩ <;> rw [w] at e
    · exact hd.work x e
    · rcases List.mem_append.1 e with e | e
      · exact hd.work x e
      · rw [List.mem_singleton.1 e]; exact hb
theorem EdgeR.sound (h : EdgeR a b s t) (hs : Sound S s) (hl : ∀ N, ClosedM S N → ∀ o, mg N a o = true → mg N b o = true) : Sound S t := by
  refine ⟨fun N hN x o e => ?_, fun N hN x y e => ?_⟩
  · rw [h.inn] at e
    simp only [Bool.or_eq_true, Bool.and_eq_true, decide_eq_true_eq] at e
    rcases e with e | ⟨⟨rfl, e⟩, _⟩
    · exact hs.inn N hN x o e
    · exact hl N hN o (hs.inn N hN a o e)
  · rw [h.too] at e
    simp only [Bool.or_eq_true, Bool.and_eq_true, decide_eq_true_eq] at e
    rcases e with e | ⟨⟨rfl, rfl⟩, _⟩
    · exact hs.too N hN x y e
    · exact hl N hN
theorem EdgeR.there (h : EdgeR a b s t) : a = b ∨ t.too a b = true := by
  by_cases e : a = b
  · exact .inl e
  · refine .inr ?_
    rw [h.too]; simp [e]
end
/-- An edge that is asked for is there. -/
def edgeE (t : St) (a b : Int) : Prop := 0 ≤ a → 0 ≤ b → a = b ∨ t.too a.toNat b.toNat = true
/-- What a constraint asks of an object, as edges. -/
def objE (t : St) (c : Con) (x : Cell) : Prop :=
  (c.k = 3 → x.fn = false → edgeE t x.v c.a) ∧ (c.k = 4 → x.fn = false → edgeE t c.b x.v) ∧
  (c.k = 5 → x.fn = true → edgeE t x.v c.a ∧ ∀ k, k < x.args.length → k < c.args.length → edgeE t c.args[k]! x.args[k]!)
theorem edgeE.up {s t : St} (h : ∀ a b, s.too a b = true → t.too a b = true) {a b : Int} (e : edgeE s a b) : edgeE t a b := fun h0 h1 => (e h0 h1).imp id (h _ _)
theorem objE.up {s t : St} (h : ∀ a b, s.too a b = true → t.too a b = true) {c : Con} {x : Cell} (e : objE s c x) : objE t c x :=
  ⟨fun h1 h2 => (e.1 h1 h2).up h, fun h1 h2 => (e.2.1 h1 h2).up h, fun h1 h2 => ⟨(e.2.2 h1 h2).1.up h, fun k h3 h4 => ((e.2.2 h1 h2).2 k h3 h4).up h⟩⟩
/-- What stands between two looks. -/
structure Inv (S : Sys) (n : Nat) (t : St) : Prop where
  dom : Dom n S.cells.length t
  sound : Sound S t
  wk : ∀ v, v ∉ t.work → t.inn v = t.don v
  pay : t.pops + t.work.length ≤ cnt (matB n S.cells.length t.inn)
  edge : ∀ a b, t.too a b = true → ∀ o, t.don a o = true → t.inn b o = true
  base : ∀ i, i < S.cons.length → S.cons[i]!.k = 1 → t.inn S.cons[i]!.a.toNat S.cons[i]!.b.toNat = true
  copy : ∀ i, i < S.cons.length → S.cons[i]!.k = 2 → t.too S.cons[i]!.b.toNat S.cons[i]!.a.toNat = true
  obj : ∀ i, i < S.cons.length → ¬ S.cons[i]!.k = 1 → ¬ S.cons[i]!.k = 2 → ∀ o, o < S.cells.length → t.don (srcOf S.cons[i]!) o = true → objE t S.cons[i]! S.cells[o]!
/-- A variable is taken from those that are to be looked at, and all in it counts as looked at. -/
def St.pop (s : St) (v : Nat) (r : List Nat) : St := ⟨s.inn, fun x => if x = v then s.inn v else s.don x, s.too, r, s.pops + 1⟩
theorem Inv.pop_dom {S : Sys} {n : Nat} {s : St} (h : Inv S n s) {v : Nat} {r : List Nat} (hw : s.work = v :: r) : Dom n S.cells.length (s.pop v r) :=
  ⟨h.dom.inn, fun x o e => by
    unfold St.pop at e ⊢
    simp only at e ⊢
    split at e
    · rename_i hx; subst hx; exact e
    · exact h.dom.don x o e, h.dom.too, fun x hx => h.dom.work x (by rw [hw]; exact List.mem_cons_of_mem _ hx)⟩
theorem Inv.look {S : Sys} {n : Nat} {s t u : St} (h : Inv S n s) {v : Nat} {r : List Nat} (hw : s.work = v :: r)
    (hg : Grow n S.cells.length (s.pop v r) t) (hs : Sound S u) (hd : Dom n S.cells.length u)
    (ho : ∀ i, i < S.cons.length → ¬ S.cons[i]!.k = 1 → ¬ S.cons[i]!.k = 2 → srcOf S.cons[i]! = v → ∀ o, o < S.cells.length → s.inn v o = true → s.don v o = false → objE t S.cons[i]! S.cells[o]!)
    (hg2 : Grow n S.cells.length t u) (hto : u.too = t.too) (hf : ∀ b, u.too v b = true → ∀ o, s.inn v o = true → s.don v o = false → u.inn b o = true) : Inv S n u := by
  have hG := hg.trans hg2
  have hdon : ∀ x, u.don x = if x = v then s.inn v else s.don x := fun x => by rw [hG.don]; rfl
  refine ⟨hd, hs, fun x hx => ?_, ?_, fun a b e o e2 => ?_, fun i hi hk => hG.inn _ _ (h.base i hi hk), fun i hi hk => hG.too _ _ (h.copy i hi hk), fun i hi h1 h2 o hoc e => ?_⟩
  · rw [hG.new x hx, hdon]
    show s.inn x = _
    split
    · rename_i e; rw [e]
    · rename_i e
      refine h.wk x fun hm => ?_
      rw [hw] at hm
      rcases List.mem_cons.1 hm with rfl | hm
      · exact e rfl
      · exact hx (hG.work x hm)
  · have h1 := hG.pay
    have h2 := h.pay
    have h3 : u.pops = s.pops + 1 := hG.pops
    have h4 : (s.pop v r).work = r := rfl
    have h5 : (s.pop v r).inn = s.inn := rfl
    rw [hw, List.length_cons] at h2
    rw [h4, h5] at h1
    omega
  · rw [hdon] at e2
    rcases hG.edge a b e with e1 | e1
    · have e1' : s.too a b = true := e1
      split at e2
      · rename_i hav
        subst hav
        cases hq : s.don a o with
        | true => exact hG.inn b o (h.edge a b e1' o hq)
        | false => exact hf b e o e2 hq
      · exact hG.inn b o (h.edge a b e1' o e2)
    · exact e1 o (by show (if a = v then s.inn v else s.don a) o = true; exact e2)
  · rw [hdon] at e
    split at e
    · rename_i hv
      cases hq : s.don v o with
      | true => exact (h.obj i hi h1 h2 o hoc (by rw [hv]; exact hq)).up hG.too
      | false => exact (ho i hi h1 h2 hv o hoc e hq).up hg2.too
    · exact (h.obj i hi h1 h2 o hoc e).up hG.too
theorem flowP_of {S : Sys} {n : Nat} {t : St} (h : Inv S n t) (hw : t.work = []) {a b : Int} (hb : b < n) (e : edgeE t a b) : flowP b a (matB n S.cells.length t.inn) := fun h1 h0 o ho => by
  have hoc : a.toNat < n ∧ o < S.cells.length := by
    apply Classical.byContradiction
    intro hh
    rw [mg_out (matB_shape n S.cells.length t.inn) hh] at ho
    cases ho
  rcases e h0 h1 with e | e
  · rw [← e]; exact ho
  · rw [mg_matB _ hoc.1 hoc.2] at ho
    rw [mg_matB _ (by omega) hoc.2]
    exact h.edge _ _ e o (by rw [← h.wk a.toNat (by rw [hw]; simp)]; exact ho)
/-- Nothing is left to be looked at: it is the least. -/
theorem Inv.least {S : Sys} {n : Nat} {t : St} (h : Inv S n t) (hn : S.vars = n) (hw : t.work = []) (hgc : ∀ i, i < S.cons.length → GoodC n S.cells.length S.cons[i]!) (hgx : ∀ o, o < S.cells.length → GoodX n S.cells[o]!) : IsLeast S (matB n S.cells.length t.inn) := by
  refine ⟨by rw [hn]; simpa using matB_shape n S.cells.length t.inn, fun i hi => ⟨fun hk => ?_, fun hk => ?_, fun h1 h2 o ho e => ?_⟩, fun N hN v o e => ?_⟩
  · have g := hgc i hi
    have := g.a0 (by omega)
    have := g.b0
    have := g.b1 hk
    have := g.a
    rw [mg_matB _ (by omega) (by omega)]
    exact h.base i hi hk
  · have g := hgc i hi
    exact flowP_of h hw g.a fun _ _ => .inr (h.copy i hi hk)
  · have g := hgc i hi
    have gx := hgx o ho
    have e2 : t.don (srcOf S.cons[i]!) o = true := by
      have hv : srcOf S.cons[i]! < n := by
        apply Classical.byContradiction
        intro hh
        rw [mg_out (matB_shape n S.cells.length t.inn) (by omega)] at e
        cases e
      rw [mg_matB _ hv ho] at e
      rw [← h.wk _ (by rw [hw]; simp)]; exact e
    have q := h.obj i hi h1 h2 o ho e2
    exact ⟨fun k1 k2 => flowP_of h hw g.a (q.1 k1 k2), fun k1 k2 => flowP_of h hw gx.v (q.2.1 k1 k2) |> fun r => r, fun k1 k2 => ⟨flowP_of h hw g.a (q.2.2 k1 k2).1, fun k k3 k4 => flowP_of h hw (gx.args k k3) ((q.2.2 k1 k2).2 k k3 k4)⟩⟩
  · by_cases hv : v < n ∧ o < S.cells.length
    · rw [mg_matB _ hv.1 hv.2] at e
      exact h.sound.inn N hN v o e
    · rw [mg_out (matB_shape n S.cells.length t.inn) hv] at e; cases e
/-- How many looks there were. -/
theorem Inv.bound {S : Sys} {n : Nat} {t : St} (h : Inv S n t) : t.pops + t.work.length ≤ n * S.cells.length := Nat.le_trans h.pay (cnt_le (matB_shape _ _ _))
end Go.Proofs.YtkjbkalakafnlaaDoor

/- pile: find, list, Has, Len; math/bits.OnesCount64, TrailingZeros64. -/
namespace Go.Proofs.YtkjbkalakafnlaaDoor
open Go.RowKit
set_option linter.unusedVariables false
set_option linter.unusedSimpArgs false
set_option maxRecDepth 100000
theorem pCmp (a : Int) (w0 : Nat) (t : Int) (ha : 0 ≤ a ∧ a < 144115188075855872) (ht : 0 ≤ t ∧ t < 144115188075855872) (w : World) :
    Calls Tryd.prog 72 #[.agg #[.int .i64 a, .int .u64 (w0 : Int)], .int .i64 t] w fun e w' => e = .returned (.int .i64 (a - t)) ∧ Below w.heap.size w w' := by
  refine enterR (args := [.agg #[.int .i64 a, .int .u64 (w0 : Int)], .int .i64 t]) tabOk Tryd.func72 rfl Tryd.ntmps72 rfl ?_; conv => whnf
  refine wl_box rfl rfl rfl rfl rfl rfl ?_
  intro g1 w1 hn1
  have hb := hn1.blk
  refine run_l tabOk ?_
  conv => whnf
  (repeat' (first | (refine wl_Lg tabOk hb rfl rfl rfl rfl rfl rfl rfl (run_l tabOk ?_); conv => whnf) | (refine wl_add rfl rfl rfl rfl rfl rfl (by omega) (by omega) (run_l tabOk ?_); conv => whnf) | (refine wl_sub rfl rfl rfl rfl rfl rfl (by omega) (by omega) (run_l tabOk ?_); conv => whnf) | (refine wl_cvA tabOk rfl rfl rfl (by simp only [inK]; omega) rfl rfl rfl (run_l tabOk ?_); conv => whnf) | (refine wl_cvB tabOk rfl rfl rfl rfl rfl rfl (run_l tabOk ?_); conv => whnf) | (refine wl_rem rfl rfl rfl rfl rfl rfl (by omega) (by omega) (fun r hr hr0 hr1 hr2 => run_l tabOk ?_); conv => whnf) | (refine wl_quo rfl rfl rfl rfl rfl rfl (by omega) (by omega) (by simp only [inK]; omega) (run_l tabOk ?_); conv => whnf) | (refine wl_mul rfl rfl rfl rfl rfl rfl (by omega) (by omega) (run_l tabOk ?_); conv => whnf) | (refine gs_dt (by first | assumption | omega) ?_; conv => whnf) | (refine gs_df (by first | assumption | omega) ?_; conv => whnf) | (refine gs_t (by assumption) ?_; conv => whnf) | (refine gs_f (by assumption) ?_; conv => whnf) | (refine gs_d (fun hg => ?_) (fun hg => ?_) <;> conv => whnf) | (refine gs_n (fun hg => ?_) (fun hg => ?_) <;> conv => whnf) | (refine gs_nb (fun hg => ?_) (fun hg => ?_) <;> conv => whnf) | (refine gs_b (fun hg => ?_) (fun hg => ?_) <;> conv => whnf) | refine fin1 rfl rfl ?_))
  exact ⟨rfl, hn1.below⟩
def fndB (bs : List Blk) (t : Int) (i : Nat) (ok : Bool) : Prop := i ≤ bs.length ∧ (∀ j, j < i → bs[j]!.a < t) ∧ (∀ j, i ≤ j → j < bs.length → t ≤ bs[j]!.a) ∧ ok = (decide (i < bs.length) && decide (bs[i]!.a = t))
set_option maxHeartbeats 4000000 in
theorem pSearch (bs : List Blk) (A : Option Addr) (c : Nat) (t : Int) (hr : ∀ b ∈ bs, 0 ≤ b.a ∧ b.a < 144115188075855872) (hs : ∀ i j, i < j → j < bs.length → bs[i]!.a < bs[j]!.a) (ht : 0 ≤ t ∧ t < 144115188075855872) (hl : bs.length ≤ 4611686018427387904) (w : World) (h : RowR 2 dBlk w A bs) :
    Calls Tryd.prog 71 #[.slice A bs.length c, .int .i64 t, .func (.func 72) #[] #[]] w fun e w' => ∃ (i : Nat) (ok : Bool), e = .returned (.tuple #[.int .i64 i, .bool ok]) ∧ fndB bs t i ok ∧ Below w.heap.size w w' := by
  refine enterR (args := [.slice A bs.length c, .int .i64 t, .func (.func 72) #[] #[]]) tabOk Tryd.func71 rfl Tryd.ntmps71 rfl ?_; conv => whnf
  (repeat' (first | (refine wl_add rfl rfl rfl rfl rfl rfl (by omega) (by omega) (run_l tabOk ?_); conv => whnf) | (refine wl_sub rfl rfl rfl rfl rfl rfl (by omega) (by omega) (run_l tabOk ?_); conv => whnf) | (refine wl_cvA tabOk rfl rfl rfl (by simp only [inK]; omega) rfl rfl rfl (run_l tabOk ?_); conv => whnf) | (refine wl_cvB tabOk rfl rfl rfl rfl rfl rfl (run_l tabOk ?_); conv => whnf) | (refine wl_rem rfl rfl rfl rfl rfl rfl (by omega) (by omega) (fun r hr hr0 hr1 hr2 => run_l tabOk ?_); conv => whnf) | (refine wl_quo rfl rfl rfl rfl rfl rfl (by omega) (by omega) (by simp only [inK]; omega) (run_l tabOk ?_); conv => whnf) | (refine wl_mul rfl rfl rfl rfl rfl rfl (by omega) (by omega) (run_l tabOk ?_); conv => whnf) | (refine gs_dt (by first | assumption | omega) ?_; conv => whnf) | (refine gs_df (by first | assumption | omega) ?_; conv => whnf) | (refine gs_t (by assumption) ?_; conv => whnf) | (refine gs_f (by assumption) ?_; conv => whnf) | (refine gs_d (fun hg => ?_) (fun hg => ?_) <;> conv => whnf) | (refine gs_n (fun hg => ?_) (fun hg => ?_) <;> conv => whnf) | (refine gs_nb (fun hg => ?_) (fun hg => ?_) <;> conv => whnf) | (refine gs_b (fun hg => ?_) (fun hg => ?_) <;> conv => whnf) | refine fin1 rfl rfl ?_))
  refine lp_loop tabOk (X := Nat × Nat) (fun x => [(0, .slice A bs.length c), (1, .int .i64 t), (2, .func (.func 72) #[] #[]), (8, .int .i64 bs.length), (9, .int .i64 x.1), (10, .int .i64 x.2)])
    (fun x wr => x.1 ≤ x.2 ∧ x.2 ≤ bs.length ∧ (∀ j, j < x.1 → bs[j]!.a < t) ∧ (∀ j, x.2 ≤ j → j < bs.length → t ≤ bs[j]!.a) ∧ Below w.heap.size w wr) (fun x => x.2 - x.1) (0, bs.length) ⟨rfl, rfl, rfl, rfl, rfl, rfl, trivial⟩ ⟨by omega, by omega, by omega, by omega, Below.refl _ _⟩ ?_
  intro ⟨lo, hi⟩ G wr ⟨h1, h2, h3, h4, hB⟩
  simp only at h1 h2 h3 h4
  dsimp only
  conv => whnf
  have hlo : bs.length ≤ bs.length := Nat.le_refl _
  have hr' := h.up stays_Blk hB
  by_cases hlt : lo < hi
  · obtain ⟨m, hm⟩ : ∃ m, m = (lo + hi) / 2 := ⟨_, rfl⟩
    have hmm : (lo : Int) + (hi : Int) = ((lo + hi : Nat) : Int) := by omega
    (repeat' (first | (refine wl_add rfl rfl rfl rfl rfl rfl (by omega) (by omega) (run_l tabOk ?_); conv => whnf) | (refine wl_sub rfl rfl rfl rfl rfl rfl (by omega) (by omega) (run_l tabOk ?_); conv => whnf) | (refine wl_cvA tabOk rfl rfl rfl (by simp only [inK]; omega) rfl rfl rfl (run_l tabOk ?_); conv => whnf) | (refine wl_cvB tabOk rfl rfl rfl rfl rfl rfl (run_l tabOk ?_); conv => whnf) | (refine wl_rem rfl rfl rfl rfl rfl rfl (by omega) (by omega) (fun r hr hr0 hr1 hr2 => run_l tabOk ?_); conv => whnf) | (refine wl_quo rfl rfl rfl rfl rfl rfl (by omega) (by omega) (by simp only [inK]; omega) (run_l tabOk ?_); conv => whnf) | (refine wl_mul rfl rfl rfl rfl rfl rfl (by omega) (by omega) (run_l tabOk ?_); conv => whnf) | (refine gs_dt (by first | assumption | omega) ?_; conv => whnf) | (refine gs_df (by first | assumption | omega) ?_; conv => whnf) | (refine gs_t (by assumption) ?_; conv => whnf) | (refine gs_f (by assumption) ?_; conv => whnf) | (refine gs_d (fun hg => ?_) (fun hg => ?_) <;> conv => whnf) | (refine gs_n (fun hg => ?_) (fun hg => ?_) <;> conv => whnf) | (refine gs_nb (fun hg => ?_) (fun hg => ?_) <;> conv => whnf) | (refine gs_b (fun hg => ?_) (fun hg => ?_) <;> conv => whnf) | refine fin1 rfl rfl ?_))
    refine wl_shr (r := ((m : Nat) : Int)) (by simp [IntKind.bits]; omega) rfl rfl rfl (by omega) rfl rfl rfl ?_
    refine run_l tabOk ?_
    conv => whnf
    obtain ⟨ad, rfl, hc⟩ := rowB_at hr' m (by omega)
    have hb := hr _ (mem_getB (bs := bs) (i := m) (by omega))
    (repeat' (first | (refine wl_Xn tabOk 104 2 rfl rfl rfl rfl rfl rfl rfl (by omega) (run_l tabOk ?_); conv => whnf) | (refine wl_La tabOk hc rfl rfl rfl rfl rfl rfl (run_l tabOk ?_); conv => whnf) | (refine wl_add rfl rfl rfl rfl rfl rfl (by omega) (by omega) (run_l tabOk ?_); conv => whnf) | (refine wl_sub rfl rfl rfl rfl rfl rfl (by omega) (by omega) (run_l tabOk ?_); conv => whnf) | (refine wl_cvA tabOk rfl rfl rfl (by simp only [inK]; omega) rfl rfl rfl (run_l tabOk ?_); conv => whnf) | (refine wl_cvB tabOk rfl rfl rfl rfl rfl rfl (run_l tabOk ?_); conv => whnf) | (refine wl_rem rfl rfl rfl rfl rfl rfl (by omega) (by omega) (fun r hr hr0 hr1 hr2 => run_l tabOk ?_); conv => whnf) | (refine wl_quo rfl rfl rfl rfl rfl rfl (by omega) (by omega) (by simp only [inK]; omega) (run_l tabOk ?_); conv => whnf) | (refine wl_mul rfl rfl rfl rfl rfl rfl (by omega) (by omega) (run_l tabOk ?_); conv => whnf) | (refine gs_dt (by first | assumption | omega) ?_; conv => whnf) | (refine gs_df (by first | assumption | omega) ?_; conv => whnf) | (refine gs_t (by assumption) ?_; conv => whnf) | (refine gs_f (by assumption) ?_; conv => whnf) | (refine gs_d (fun hg => ?_) (fun hg => ?_) <;> conv => whnf) | (refine gs_n (fun hg => ?_) (fun hg => ?_) <;> conv => whnf) | (refine gs_nb (fun hg => ?_) (fun hg => ?_) <;> conv => whnf) | (refine gs_b (fun hg => ?_) (fun hg => ?_) <;> conv => whnf) | refine fin1 rfl rfl ?_))
    refine wl_C fn72 (pCmp bs[m]!.a bs[m]!.w t hb ht wr) rfl rfl rfl rfl rfl rfl rfl ?_
    rintro _ w2 ⟨rfl, hB2⟩
    refine ⟨_, rfl, run_l tabOk ?_⟩
    conv => whnf
    by_cases hlt2 : bs[m]!.a < t
    · (repeat' (first | (refine wl_add rfl rfl rfl rfl rfl rfl (by omega) (by omega) (run_l tabOk ?_); conv => whnf) | (refine wl_sub rfl rfl rfl rfl rfl rfl (by omega) (by omega) (run_l tabOk ?_); conv => whnf) | (refine wl_cvA tabOk rfl rfl rfl (by simp only [inK]; omega) rfl rfl rfl (run_l tabOk ?_); conv => whnf) | (refine wl_cvB tabOk rfl rfl rfl rfl rfl rfl (run_l tabOk ?_); conv => whnf) | (refine wl_rem rfl rfl rfl rfl rfl rfl (by omega) (by omega) (fun r hr hr0 hr1 hr2 => run_l tabOk ?_); conv => whnf) | (refine wl_quo rfl rfl rfl rfl rfl rfl (by omega) (by omega) (by simp only [inK]; omega) (run_l tabOk ?_); conv => whnf) | (refine wl_mul rfl rfl rfl rfl rfl rfl (by omega) (by omega) (run_l tabOk ?_); conv => whnf) | (refine gs_dt (by first | assumption | omega) ?_; conv => whnf) | (refine gs_df (by first | assumption | omega) ?_; conv => whnf) | (refine gs_t (by assumption) ?_; conv => whnf) | (refine gs_f (by assumption) ?_; conv => whnf) | (refine gs_d (fun hg => ?_) (fun hg => ?_) <;> conv => whnf) | (refine gs_n (fun hg => ?_) (fun hg => ?_) <;> conv => whnf) | (refine gs_nb (fun hg => ?_) (fun hg => ?_) <;> conv => whnf) | (refine gs_b (fun hg => ?_) (fun hg => ?_) <;> conv => whnf) | refine fin1 rfl rfl ?_))
      refine ⟨(m + 1, hi), ⟨rfl, rfl, rfl, rfl, rfl, rfl, trivial⟩, ⟨by simp only; omega, h2, fun j hj => ?_, h4, bup hB hB2⟩, by simp only; omega⟩
      simp only at hj
      rcases Nat.lt_or_ge j m with h5 | h5
      · have := hs j m h5 (by omega); omega
      · have : j = m := by omega
        subst this; exact hlt2
    · (repeat' (first | (refine wl_add rfl rfl rfl rfl rfl rfl (by omega) (by omega) (run_l tabOk ?_); conv => whnf) | (refine wl_sub rfl rfl rfl rfl rfl rfl (by omega) (by omega) (run_l tabOk ?_); conv => whnf) | (refine wl_cvA tabOk rfl rfl rfl (by simp only [inK]; omega) rfl rfl rfl (run_l tabOk ?_); conv => whnf) | (refine wl_cvB tabOk rfl rfl rfl rfl rfl rfl (run_l tabOk ?_); conv => whnf) | (refine wl_rem rfl rfl rfl rfl rfl rfl (by omega) (by omega) (fun r hr hr0 hr1 hr2 => run_l tabOk ?_); conv => whnf) | (refine wl_quo rfl rfl rfl rfl rfl rfl (by omega) (by omega) (by simp only [inK]; omega) (run_l tabOk ?_); conv => whnf) | (refine wl_mul rfl rfl rfl rfl rfl rfl (by omega) (by omega) (run_l tabOk ?_); conv => whnf) | (refine gs_dt (by first | assumption | omega) ?_; conv => whnf) | (refine gs_df (by first | assumption | omega) ?_; conv => whnf) | (refine gs_t (by assumption) ?_; conv => whnf) | (refine gs_f (by assumption) ?_; conv => whnf) | (refine gs_d (fun hg => ?_) (fun hg => ?_) <;> conv => whnf) | (refine gs_n (fun hg => ?_) (fun hg => ?_) <;> conv => whnf) | (refine gs_nb (fun hg => ?_) (fun hg => ?_) <;> conv => whnf) | (refine gs_b (fun hg => ?_) (fun hg => ?_) <;> conv => whnf) | refine fin1 rfl rfl ?_))
      refine ⟨(lo, m), ⟨rfl, rfl, rfl, rfl, rfl, rfl, trivial⟩, ⟨by simp only; omega, by simp only; omega, h3, fun j hj hj2 => ?_, bup hB hB2⟩, by simp only; omega⟩
      simp only at hj
      rcases Nat.lt_or_ge m j with h5 | h5
      · have := hs m j h5 hj2; omega
      · have : j = m := by omega
        subst this; omega
  · have e : lo = hi := by omega
    subst e
    by_cases hl2 : lo < bs.length
    · obtain ⟨ad, rfl, hc⟩ := rowB_at hr' lo hl2
      have hb := hr _ (mem_getB (bs := bs) (i := lo) hl2)
      (repeat' (first | (refine wl_Xn tabOk 104 2 rfl rfl rfl rfl rfl rfl rfl (by omega) (run_l tabOk ?_); conv => whnf) | (refine wl_La tabOk hc rfl rfl rfl rfl rfl rfl (run_l tabOk ?_); conv => whnf) | (refine wl_add rfl rfl rfl rfl rfl rfl (by omega) (by omega) (run_l tabOk ?_); conv => whnf) | (refine wl_sub rfl rfl rfl rfl rfl rfl (by omega) (by omega) (run_l tabOk ?_); conv => whnf) | (refine wl_cvA tabOk rfl rfl rfl (by simp only [inK]; omega) rfl rfl rfl (run_l tabOk ?_); conv => whnf) | (refine wl_cvB tabOk rfl rfl rfl rfl rfl rfl (run_l tabOk ?_); conv => whnf) | (refine wl_rem rfl rfl rfl rfl rfl rfl (by omega) (by omega) (fun r hr hr0 hr1 hr2 => run_l tabOk ?_); conv => whnf) | (refine wl_quo rfl rfl rfl rfl rfl rfl (by omega) (by omega) (by simp only [inK]; omega) (run_l tabOk ?_); conv => whnf) | (refine wl_mul rfl rfl rfl rfl rfl rfl (by omega) (by omega) (run_l tabOk ?_); conv => whnf) | (refine gs_dt (by first | assumption | omega) ?_; conv => whnf) | (refine gs_df (by first | assumption | omega) ?_; conv => whnf) | (refine gs_t (by assumption) ?_; conv => whnf) | (refine gs_f (by assumption) ?_; conv => whnf) | (refine gs_d (fun hg => ?_) (fun hg => ?_) <;> conv => whnf) | (refine gs_n (fun hg => ?_) (fun hg => ?_) <;> conv => whnf) | (refine gs_nb (fun hg => ?_) (fun hg => ?_) <;> conv => whnf) | (refine gs_b (fun hg => ?_) (fun hg => ?_) <;> conv => whnf) | refine fin1 rfl rfl ?_))
      refine wl_C fn72 (pCmp bs[lo]!.a bs[lo]!.w t hb ht wr) rfl rfl rfl rfl rfl rfl rfl ?_
      rintro _ w2 ⟨rfl, hB2⟩
      refine ⟨_, rfl, run_l tabOk ?_⟩
      conv => whnf
      by_cases he : bs[lo]!.a = t
      · (repeat' (first | (refine wl_add rfl rfl rfl rfl rfl rfl (by omega) (by omega) (run_l tabOk ?_); conv => whnf) | (refine wl_sub rfl rfl rfl rfl rfl rfl (by omega) (by omega) (run_l tabOk ?_); conv => whnf) | (refine wl_cvA tabOk rfl rfl rfl (by simp only [inK]; omega) rfl rfl rfl (run_l tabOk ?_); conv => whnf) | (refine wl_cvB tabOk rfl rfl rfl rfl rfl rfl (run_l tabOk ?_); conv => whnf) | (refine wl_rem rfl rfl rfl rfl rfl rfl (by omega) (by omega) (fun r hr hr0 hr1 hr2 => run_l tabOk ?_); conv => whnf) | (refine wl_quo rfl rfl rfl rfl rfl rfl (by omega) (by omega) (by simp only [inK]; omega) (run_l tabOk ?_); conv => whnf) | (refine wl_mul rfl rfl rfl rfl rfl rfl (by omega) (by omega) (run_l tabOk ?_); conv => whnf) | (refine gs_dt (by first | assumption | omega) ?_; conv => whnf) | (refine gs_df (by first | assumption | omega) ?_; conv => whnf) | (refine gs_t (by assumption) ?_; conv => whnf) | (refine gs_f (by assumption) ?_; conv => whnf) | (refine gs_d (fun hg => ?_) (fun hg => ?_) <;> conv => whnf) | (refine gs_n (fun hg => ?_) (fun hg => ?_) <;> conv => whnf) | (refine gs_nb (fun hg => ?_) (fun hg => ?_) <;> conv => whnf) | (refine gs_b (fun hg => ?_) (fun hg => ?_) <;> conv => whnf) | refine fin1 rfl rfl ?_))
        refine fin2 rfl rfl rfl ⟨lo, true, ?_, ⟨h2, h3, h4, ?_⟩, bup hB hB2⟩
        · rw [decide_eq_true (by omega : bs[lo]!.a - t = 0)]
        · rw [decide_eq_true hl2, decide_eq_true he]; rfl
      · (repeat' (first | (refine wl_add rfl rfl rfl rfl rfl rfl (by omega) (by omega) (run_l tabOk ?_); conv => whnf) | (refine wl_sub rfl rfl rfl rfl rfl rfl (by omega) (by omega) (run_l tabOk ?_); conv => whnf) | (refine wl_cvA tabOk rfl rfl rfl (by simp only [inK]; omega) rfl rfl rfl (run_l tabOk ?_); conv => whnf) | (refine wl_cvB tabOk rfl rfl rfl rfl rfl rfl (run_l tabOk ?_); conv => whnf) | (refine wl_rem rfl rfl rfl rfl rfl rfl (by omega) (by omega) (fun r hr hr0 hr1 hr2 => run_l tabOk ?_); conv => whnf) | (refine wl_quo rfl rfl rfl rfl rfl rfl (by omega) (by omega) (by simp only [inK]; omega) (run_l tabOk ?_); conv => whnf) | (refine wl_mul rfl rfl rfl rfl rfl rfl (by omega) (by omega) (run_l tabOk ?_); conv => whnf) | (refine gs_dt (by first | assumption | omega) ?_; conv => whnf) | (refine gs_df (by first | assumption | omega) ?_; conv => whnf) | (refine gs_t (by assumption) ?_; conv => whnf) | (refine gs_f (by assumption) ?_; conv => whnf) | (refine gs_d (fun hg => ?_) (fun hg => ?_) <;> conv => whnf) | (refine gs_n (fun hg => ?_) (fun hg => ?_) <;> conv => whnf) | (refine gs_nb (fun hg => ?_) (fun hg => ?_) <;> conv => whnf) | (refine gs_b (fun hg => ?_) (fun hg => ?_) <;> conv => whnf) | refine fin1 rfl rfl ?_))
        refine fin2 rfl rfl rfl ⟨lo, false, ?_, ⟨h2, h3, h4, ?_⟩, bup hB hB2⟩
        · rw [decide_eq_false (by omega : ¬ bs[lo]!.a - t = 0)]
        · rw [decide_eq_true hl2, decide_eq_false he]; rfl
    · (repeat' (first | (refine wl_add rfl rfl rfl rfl rfl rfl (by omega) (by omega) (run_l tabOk ?_); conv => whnf) | (refine wl_sub rfl rfl rfl rfl rfl rfl (by omega) (by omega) (run_l tabOk ?_); conv => whnf) | (refine wl_cvA tabOk rfl rfl rfl (by simp only [inK]; omega) rfl rfl rfl (run_l tabOk ?_); conv => whnf) | (refine wl_cvB tabOk rfl rfl rfl rfl rfl rfl (run_l tabOk ?_); conv => whnf) | (refine wl_rem rfl rfl rfl rfl rfl rfl (by omega) (by omega) (fun r hr hr0 hr1 hr2 => run_l tabOk ?_); conv => whnf) | (refine wl_quo rfl rfl rfl rfl rfl rfl (by omega) (by omega) (by simp only [inK]; omega) (run_l tabOk ?_); conv => whnf) | (refine wl_mul rfl rfl rfl rfl rfl rfl (by omega) (by omega) (run_l tabOk ?_); conv => whnf) | (refine gs_dt (by first | assumption | omega) ?_; conv => whnf) | (refine gs_df (by first | assumption | omega) ?_; conv => whnf) | (refine gs_t (by assumption) ?_; conv => whnf) | (refine gs_f (by assumption) ?_; conv => whnf) | (refine gs_d (fun hg => ?_) (fun hg => ?_) <;> conv => whnf) | (refine gs_n (fun hg => ?_) (fun hg => ?_) <;> conv => whnf) | (refine gs_nb (fun hg => ?_) (fun hg => ?_) <;> conv => whnf) | (refine gs_b (fun hg => ?_) (fun hg => ?_) <;> conv => whnf) | refine fin1 rfl rfl ?_))
      refine fin2 rfl rfl rfl ⟨lo, false, ?_, ⟨h2, h3, h4, ?_⟩, hB⟩
      · rfl
      · rw [decide_eq_false hl2]; rfl
/-- The place of a block. -/
theorem pFind {base g : Nat} {w : World} {bs : List Blk} {fp : List Nat} (hP : PSet base g w bs fp) (t : Int) (ht : 0 ≤ t ∧ t < 144115188075855872) (hl : bs.length ≤ 4611686018427387904) :
    Calls Tryd.prog 58 #[.pointer (some ⟨g, 0, none⟩), .int .i64 t] w fun e w' => ∃ (i : Nat) (ok : Bool), e = .returned (.tuple #[.int .i64 i, .bool ok]) ∧ fndB bs t i ok ∧ Below w.heap.size w w' := by
  obtain ⟨V, hb, ho, rfl, hne⟩ := hP.ex
  obtain ⟨A, c, rfl, hlc, hrow⟩ := ho.row
  refine enterR (args := [.pointer (some ⟨g, 0, none⟩), .int .i64 t]) tabOk Tryd.func58 rfl Tryd.ntmps58 rfl ?_; conv => whnf
  (repeat' (first | (refine wl_Lg tabOk hb rfl rfl rfl rfl rfl rfl rfl (run_l tabOk ?_); conv => whnf) | (refine wl_add rfl rfl rfl rfl rfl rfl (by omega) (by omega) (run_l tabOk ?_); conv => whnf) | (refine wl_sub rfl rfl rfl rfl rfl rfl (by omega) (by omega) (run_l tabOk ?_); conv => whnf) | (refine wl_cvA tabOk rfl rfl rfl (by simp only [inK]; omega) rfl rfl rfl (run_l tabOk ?_); conv => whnf) | (refine wl_cvB tabOk rfl rfl rfl rfl rfl rfl (run_l tabOk ?_); conv => whnf) | (refine wl_rem rfl rfl rfl rfl rfl rfl (by omega) (by omega) (fun r hr hr0 hr1 hr2 => run_l tabOk ?_); conv => whnf) | (refine wl_quo rfl rfl rfl rfl rfl rfl (by omega) (by omega) (by simp only [inK]; omega) (run_l tabOk ?_); conv => whnf) | (refine wl_mul rfl rfl rfl rfl rfl rfl (by omega) (by omega) (run_l tabOk ?_); conv => whnf) | (refine gs_dt (by first | assumption | omega) ?_; conv => whnf) | (refine gs_df (by first | assumption | omega) ?_; conv => whnf) | (refine gs_t (by assumption) ?_; conv => whnf) | (refine gs_f (by assumption) ?_; conv => whnf) | (refine gs_d (fun hg => ?_) (fun hg => ?_) <;> conv => whnf) | (refine gs_n (fun hg => ?_) (fun hg => ?_) <;> conv => whnf) | (refine gs_nb (fun hg => ?_) (fun hg => ?_) <;> conv => whnf) | (refine gs_b (fun hg => ?_) (fun hg => ?_) <;> conv => whnf) | refine fin1 rfl rfl ?_))
  refine wl_C fn71 (pSearch bs A c t (fun b hb' => ⟨(hP.wf.rng b hb').1, (hP.wf.rng b hb').2.1⟩) hP.wf.up ht hl w hrow) rfl rfl rfl rfl rfl rfl rfl ?_
  rintro _ w2 ⟨i, ok, rfl, hf, hB2⟩
  refine ⟨_, rfl, run_l tabOk ?_⟩
  conv => whnf
  (repeat' (first | (refine wl_add rfl rfl rfl rfl rfl rfl (by omega) (by omega) (run_l tabOk ?_); conv => whnf) | (refine wl_sub rfl rfl rfl rfl rfl rfl (by omega) (by omega) (run_l tabOk ?_); conv => whnf) | (refine wl_cvA tabOk rfl rfl rfl (by simp only [inK]; omega) rfl rfl rfl (run_l tabOk ?_); conv => whnf) | (refine wl_cvB tabOk rfl rfl rfl rfl rfl rfl (run_l tabOk ?_); conv => whnf) | (refine wl_rem rfl rfl rfl rfl rfl rfl (by omega) (by omega) (fun r hr hr0 hr1 hr2 => run_l tabOk ?_); conv => whnf) | (refine wl_quo rfl rfl rfl rfl rfl rfl (by omega) (by omega) (by simp only [inK]; omega) (run_l tabOk ?_); conv => whnf) | (refine wl_mul rfl rfl rfl rfl rfl rfl (by omega) (by omega) (run_l tabOk ?_); conv => whnf) | (refine gs_dt (by first | assumption | omega) ?_; conv => whnf) | (refine gs_df (by first | assumption | omega) ?_; conv => whnf) | (refine gs_t (by assumption) ?_; conv => whnf) | (refine gs_f (by assumption) ?_; conv => whnf) | (refine gs_d (fun hg => ?_) (fun hg => ?_) <;> conv => whnf) | (refine gs_n (fun hg => ?_) (fun hg => ?_) <;> conv => whnf) | (refine gs_nb (fun hg => ?_) (fun hg => ?_) <;> conv => whnf) | (refine gs_b (fun hg => ?_) (fun hg => ?_) <;> conv => whnf) | refine fin1 rfl rfl ?_))
  exact fin2 rfl rfl rfl ⟨i, ok, rfl, hf, hB2⟩
/-- A set's row; nil has none. -/
theorem pList {base g : Nat} {w : World} {bs : List Blk} {fp : List Nat} (hP : PSet base g w bs fp) :
    Calls Tryd.prog 76 #[.pointer (some ⟨g, 0, none⟩)] w fun e w' => ∃ A c, e = .returned (.slice A bs.length c) ∧ w.heap[g]? = some (.cells #[.slice A bs.length c] 91 (0, 0)) ∧ bs.length ≤ c ∧ RowR 2 dBlk w A bs ∧ Below w.heap.size w w' := by
  obtain ⟨V, hb, ho, rfl, hne⟩ := hP.ex
  obtain ⟨A, c, rfl, hlc, hrow⟩ := ho.row
  refine enterR (args := [.pointer (some ⟨g, 0, none⟩)]) tabOk Tryd.func76 rfl Tryd.ntmps76 rfl ?_; conv => whnf
  (repeat' (first | (refine wl_Lg tabOk hb rfl rfl rfl rfl rfl rfl rfl (run_l tabOk ?_); conv => whnf) | (refine wl_pnF tabOk rfl rfl rfl rfl rfl rfl (run_l tabOk ?_); conv => whnf) | (refine wl_pnT tabOk rfl rfl rfl rfl rfl rfl (run_l tabOk ?_); conv => whnf) | (refine wl_pqF tabOk rfl rfl rfl rfl rfl rfl (run_l tabOk ?_); conv => whnf) | (refine wl_pqT tabOk rfl rfl rfl rfl rfl rfl (run_l tabOk ?_); conv => whnf) | (refine wl_add rfl rfl rfl rfl rfl rfl (by omega) (by omega) (run_l tabOk ?_); conv => whnf) | (refine wl_sub rfl rfl rfl rfl rfl rfl (by omega) (by omega) (run_l tabOk ?_); conv => whnf) | (refine wl_cvA tabOk rfl rfl rfl (by simp only [inK]; omega) rfl rfl rfl (run_l tabOk ?_); conv => whnf) | (refine wl_cvB tabOk rfl rfl rfl rfl rfl rfl (run_l tabOk ?_); conv => whnf) | (refine wl_rem rfl rfl rfl rfl rfl rfl (by omega) (by omega) (fun r hr hr0 hr1 hr2 => run_l tabOk ?_); conv => whnf) | (refine wl_quo rfl rfl rfl rfl rfl rfl (by omega) (by omega) (by simp only [inK]; omega) (run_l tabOk ?_); conv => whnf) | (refine wl_mul rfl rfl rfl rfl rfl rfl (by omega) (by omega) (run_l tabOk ?_); conv => whnf) | (refine gs_dt (by first | assumption | omega) ?_; conv => whnf) | (refine gs_df (by first | assumption | omega) ?_; conv => whnf) | (refine gs_t (by assumption) ?_; conv => whnf) | (refine gs_f (by assumption) ?_; conv => whnf) | (refine gs_d (fun hg => ?_) (fun hg => ?_) <;> conv => whnf) | (refine gs_n (fun hg => ?_) (fun hg => ?_) <;> conv => whnf) | (refine gs_nb (fun hg => ?_) (fun hg => ?_) <;> conv => whnf) | (refine gs_b (fun hg => ?_) (fun hg => ?_) <;> conv => whnf) | refine fin1 rfl rfl ?_))
  exact ⟨A, c, rfl, hb, hlc, hrow, Below.refl _ _⟩
theorem pListN (w : World) : Calls Tryd.prog 76 #[.pointer none] w fun e w' => e = .returned (.slice none 0 0) ∧ Below w.heap.size w w' := by
  refine enterR (args := [.pointer none]) tabOk Tryd.func76 rfl Tryd.ntmps76 rfl ?_; conv => whnf
  (repeat' (first | (refine wl_pnF tabOk rfl rfl rfl rfl rfl rfl (run_l tabOk ?_); conv => whnf) | (refine wl_pnT tabOk rfl rfl rfl rfl rfl rfl (run_l tabOk ?_); conv => whnf) | (refine wl_pqF tabOk rfl rfl rfl rfl rfl rfl (run_l tabOk ?_); conv => whnf) | (refine wl_pqT tabOk rfl rfl rfl rfl rfl rfl (run_l tabOk ?_); conv => whnf) | (refine wl_add rfl rfl rfl rfl rfl rfl (by omega) (by omega) (run_l tabOk ?_); conv => whnf) | (refine wl_sub rfl rfl rfl rfl rfl rfl (by omega) (by omega) (run_l tabOk ?_); conv => whnf) | (refine wl_cvA tabOk rfl rfl rfl (by simp only [inK]; omega) rfl rfl rfl (run_l tabOk ?_); conv => whnf) | (refine wl_cvB tabOk rfl rfl rfl rfl rfl rfl (run_l tabOk ?_); conv => whnf) | (refine wl_rem rfl rfl rfl rfl rfl rfl (by omega) (by omega) (fun r hr hr0 hr1 hr2 => run_l tabOk ?_); conv => whnf) | (refine wl_quo rfl rfl rfl rfl rfl rfl (by omega) (by omega) (by simp only [inK]; omega) (run_l tabOk ?_); conv => whnf) | (refine wl_mul rfl rfl rfl rfl rfl rfl (by omega) (by omega) (run_l tabOk ?_); conv => whnf) | (refine gs_dt (by first | assumption | omega) ?_; conv => whnf) | (refine gs_df (by first | assumption | omega) ?_; conv => whnf) | (refine gs_t (by assumption) ?_; conv => whnf) | (refine gs_f (by assumption) ?_; conv => whnf) | (refine gs_d (fun hg => ?_) (fun hg => ?_) <;> conv => whnf) | (refine gs_n (fun hg => ?_) (fun hg => ?_) <;> conv => whnf) | (refine gs_nb (fun hg => ?_) (fun hg => ?_) <;> conv => whnf) | (refine gs_b (fun hg => ?_) (fun hg => ?_) <;> conv => whnf) | refine fin1 rfl rfl ?_))
  exact ⟨rfl, Below.refl _ _⟩
end Go.Proofs.YtkjbkalakafnlaaDoor

/- pile: Has, Len, All; math/bits.OnesCount64, TrailingZeros64. -/
namespace Go.Proofs.YtkjbkalakafnlaaDoor
open Go.RowKit
set_option linter.unusedVariables false
set_option linter.unusedSimpArgs false
set_option maxRecDepth 100000
theorem rowB_f {w : World} {A : Option Addr} {bs : List Blk} (h : RowR 2 dBlk w A bs) (i : Nat) (hi : i < bs.length) : ∃ ad, A = some ad ∧ w.cell? (ad.add (i * 2)) = some (.int .i64 bs[i]!.a) ∧ w.cell? ⟨(ad.add (i * 2)).block, (ad.add (i * 2)).off + 1, none⟩ = some (.int .u64 (bs[i]!.w : Int)) := by
  obtain ⟨ad, e, h1, h2, _⟩ := rowB_at h i hi
  refine ⟨ad, e, ?_, ?_⟩
  · have : (ad.add (i * 2)).add 0 = ad.add (i * 2) := addr_add0 _
    rwa [this] at h1
  · rw [add_field _ _ _ (by omega)]
    rwa [add_add] at h2
theorem bit_is (w k : Nat) : decide (((w >>> k &&& 1 : Nat) : Int) = 1) = w.testBit k := by
  rw [Nat.and_one_is_mod, Nat.shiftRight_eq_div_pow, Nat.testBit_eq_decide_div_mod_eq, decide_eq_decide]
  omega
theorem shr_u64 (w : Nat) (b : Int) (k : Nat) (hb : b = k) (hk : k < 64) : (w : Int) / 2 ^ min b.toNat IntKind.u64.bits = ((w >>> k : Nat) : Int) := by
  subst hb
  have : min ((k : Int)).toNat IntKind.u64.bits = k := by simp [IntKind.bits]; omega
  rw [this, Nat.shiftRight_eq_div_pow]
  simp
theorem shr_le (w k : Nat) (h : w < 18446744073709551616) : w >>> k < 18446744073709551616 := by
  rw [Nat.shiftRight_eq_div_pow]
  exact Nat.lt_of_le_of_lt (Nat.div_le_self _ _) h
end Go.Proofs.YtkjbkalakafnlaaDoor
