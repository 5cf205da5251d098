/- Several texts of one claim in one file: KT16 A0 A1 E0. -/
import Derived.Test.YtjggjhgbobmkhaaRows
import Derived.Below
import Derived.Deep.Draws
import Derived.OwnWalk
import Derived.Laws.MakeOwn
import Derived.Laws.OwnMore
import Derived.Maps.AppendAt
import Derived.Deep.AppendLies
import Derived.Deep.OwnRows
import Derived.Tactics
import Derived.Laws.Slices
import Derived.WalkKit
import Derived.KernelRfl
import Derived.RowKit3
import Derived.Deep.LoopGhost
import Derived.Deep.QuietTactic
import Derived.BigQuiet
import Derived.WideLaws
import Derived.Deep.DeepCutAuto
import Derived.Deep.CutBlock
import Derived.Deep.RegionHeld3
import Derived.Laws.Rows
import Derived.OrdersHeld
import Derived.RowKit
import Derived.Outline
import Derived.WalkSpells
import Derived.WalkLawsBesides
import Derived.ProofKit
import Derived.OpenShut
/- Knots: a search's plain law. -/
namespace Go.Proofs.Ytjggjhgbobmkhaa
set_option linter.unusedVariables false
set_option linter.unusedSimpArgs false
/-- To come to a node by edges. -/
inductive Rch (E : Nat → Nat → Prop) : Nat → Nat → Prop
  | refl (v : Nat) : Rch E v v
  | step {v w u : Nat} : E v w → Rch E w u → Rch E v u
theorem Rch.trans {E : Nat → Nat → Prop} {a b c : Nat} (h : Rch E a b) (k : Rch E b c) : Rch E a c := by
  induction h with
  | refl => exact k
  | step e _ ih => exact .step e (ih k)
theorem Rch.one {E : Nat → Nat → Prop} {a b : Nat} (h : E a b) : Rch E a b := .step h (.refl b)
theorem Rch.closed {E : Nat → Nat → Prop} {P : Nat → Prop} (hP : ∀ v w, P v → E v w → P w) {a b : Nat} (h : Rch E a b) : P a → P b := by
  induction h with
  | refl => exact id
  | step e _ ih => exact fun p => ih (hP _ _ p e)
/-- The k-th thing of a node's row is a node. -/
def EdK (g : List (List Int)) (v k w : Nat) : Prop := v < g.length ∧ w < g.length ∧ k < (g[v]!).length ∧ (g[v]!)[k]! = (w : Int)
def Ed (g : List (List Int)) (v w : Nat) : Prop := ∃ k, EdK g v k w
abbrev Rg (g : List (List Int)) := Rch (Ed g)
/-- The search's state. -/
structure TS where
  idx : Nat → Nat
  low : Nat → Nat
  on : Nat → Bool
  stk : List Nat
  of : Nat → Nat
  cnt : Nat
  kn : List (List Nat)
  path : List (Nat × Nat)
def TS.pn (s : TS) : List Nat := s.path.map (·.1)
/-- Which edges have been looked at. -/
def TS.Pr (s : TS) (x k : Nat) : Prop := x ∉ s.pn ∨ ∃ nx, (x, nx) ∈ s.path ∧ k < nx
def TS.Dn (s : TS) (v : Nat) : Prop := 0 < s.idx v ∧ v ∉ s.stk
structure TInv (g : List (List Int)) (s : TS) : Prop where
  le : ∀ v, s.idx v ≤ s.cnt
  nod : ∀ v, 0 < s.idx v → v < g.length
  stk : ∀ x ∈ s.stk, 0 < s.idx x
  on : ∀ x, s.on x = true ↔ x ∈ s.stk
  ord : s.stk.Pairwise fun a b => s.idx a < s.idx b
  psub : s.pn.Sublist s.stk
  bot : ∀ x ∈ s.stk, ∃ p ∈ s.pn, s.idx p ≤ s.idx x
  -- what is done
  dk : ∀ v, s.Dn v → s.of v < s.kn.length ∧ v ∈ s.kn[s.of v]!
  kd : ∀ k, k < s.kn.length → s.kn[k]! ≠ [] ∧ (s.kn[k]!).Pairwise (· < ·) ∧ ∀ v ∈ s.kn[k]!, s.Dn v ∧ s.of v = k
  cl : ∀ v w, s.Dn v → Ed g v w → s.Dn w ∧ s.of w ≤ s.of v
  scc : ∀ v u, s.Dn v → s.Dn u → (s.of v = s.of u ↔ Rg g v u ∧ Rg g u v)
  -- what stands on the stack
  pr : ∀ x ∈ s.stk, ∀ k w, s.Pr x k → EdK g x k w → 0 < s.idx w
  j1 : ∀ x ∈ s.stk, x ∉ s.pn → ∃ y ∈ s.stk, s.idx y < s.idx x ∧ Rg g x y
  j2 : ∀ p ∈ s.pn, ∀ x ∈ s.stk, s.idx p ≤ s.idx x → Rg g p x
  j3 : ∀ p ∈ s.pn, s.low p ≤ s.idx p ∧ ∃ y ∈ s.stk, s.idx y = s.low p ∧ Rg g p y
  j4 : ∀ A v nx B, s.path = A ++ (v, nx) :: B → ∀ x ∈ s.stk, s.idx v ≤ s.idx x → (∀ b ∈ B, s.idx x < s.idx b.1) → ∀ k w, s.Pr x k → EdK g x k w → w ∈ s.stk → s.low v ≤ s.idx w
section
variable {g : List (List Int)} {s : TS}
theorem TInv.pstk (h : TInv g s) {v : Nat} (hv : v ∈ s.pn) : v ∈ s.stk := h.psub.subset hv
theorem TInv.inj (h : TInv g s) {a b : Nat} (ha : a ∈ s.stk) (hb : b ∈ s.stk) (e : s.idx a = s.idx b) : a = b := by
  have key : ∀ l : List Nat, l.Pairwise (fun a b => s.idx a < s.idx b) → a ∈ l → b ∈ l → a = b := by
    intro l
    induction l with
    | nil => intro _ h; cases h
    | cons c r ih =>
      intro hp h1 h2
      rw [List.pairwise_cons] at hp
      rcases List.mem_cons.1 h1 with h3 | h3
      · rcases List.mem_cons.1 h2 with h4 | h4
        · rw [h3, h4]
        · have := hp.1 _ h4
          rw [h3] at e
          omega
      · rcases List.mem_cons.1 h2 with h4 | h4
        · have := hp.1 _ h3
          rw [h4] at e
          omega
        · exact ih hp.2 h3 h4
  exact key _ h.ord ha hb
/-- Before anything. -/
def TS.init : TS := ⟨fun _ => 0, fun _ => 0, fun _ => false, [], fun _ => 0, 0, [], []⟩
theorem TInv.init (g : List (List Int)) : TInv g TS.init where
  le := fun _ => Nat.le_refl _
  nod := fun _ h => absurd h (Nat.lt_irrefl 0)
  stk := fun _ h => by cases h
  on := fun _ => ⟨fun h => (by cases h), fun h => (by cases h)⟩
  ord := .nil
  psub := .slnil
  bot := fun _ h => by cases h
  dk := fun _ h => absurd h.1 (Nat.lt_irrefl 0)
  kd := fun _ h => absurd h (Nat.not_lt_zero _)
  cl := fun _ _ h => absurd h.1 (Nat.lt_irrefl 0)
  scc := fun _ _ h => absurd h.1 (Nat.lt_irrefl 0)
  pr := fun _ h => by cases h
  j1 := fun _ h => by cases h
  j2 := fun _ h => by cases h
  j3 := fun _ h => by cases h
  j4 := fun _ _ _ _ _ _ h => by cases h
def setF {α : Type} (f : Nat → α) (v : Nat) (x : α) : Nat → α := fun j => if j = v then x else f j
theorem setF_at {α : Type} (f : Nat → α) (v : Nat) (x : α) : setF f v x v = x := if_pos rfl
theorem setF_ne {α : Type} (f : Nat → α) {v j : Nat} (x : α) (h : j ≠ v) : setF f v x j = f j := if_neg h
/-- A node is come to: from nowhere, or by the edge that was looked at last. -/
def TS.enter (s : TS) (v : Nat) : TS := ⟨setF s.idx v (s.cnt + 1), setF s.low v (s.cnt + 1), setF s.on v true, s.stk ++ [v], s.of, s.cnt + 1, s.kn, s.path ++ [(v, 0)]⟩
theorem TS.enter_pn (s : TS) (v : Nat) : (s.enter v).pn = s.pn ++ [v] := by simp [TS.enter, TS.pn]
theorem TInv.enter (h : TInv g s) {v : Nat} (hv : v < g.length) (h0 : s.idx v = 0) (hp : ∀ p ∈ s.pn, Rg g p v) : TInv g (s.enter v) := by
  have hvs : v ∉ s.stk := fun hh => by have := h.stk v hh; omega
  have hvp : v ∉ s.pn := fun hh => hvs (h.pstk hh)
  have ne : ∀ x ∈ s.stk, x ≠ v := fun x hx e => hvs (e ▸ hx)
  have ix : ∀ x, x ≠ v → (s.enter v).idx x = s.idx x := fun x hx => setF_ne _ _ hx
  have iv : (s.enter v).idx v = s.cnt + 1 := setF_at ..
  have lx : ∀ x, x ≠ v → (s.enter v).low x = s.low x := fun x hx => setF_ne _ _ hx
  have lv : (s.enter v).low v = s.cnt + 1 := setF_at ..
  have ms : ∀ x, x ∈ (s.enter v).stk ↔ x ∈ s.stk ∨ x = v := fun x => by simp [TS.enter]
  have mp : ∀ x, x ∈ (s.enter v).pn ↔ x ∈ s.pn ∨ x = v := fun x => by rw [TS.enter_pn]; simp
  have pos : ∀ x, 0 < (s.enter v).idx x ↔ 0 < s.idx x ∨ x = v := fun x => by
    by_cases e : x = v
    · subst e; rw [iv]; simp
    · rw [ix x e]; simp [e]
  have dn : ∀ x, (s.enter v).Dn x ↔ s.Dn x := fun x => by
    unfold TS.Dn
    rw [pos, ms]
    constructor
    · rintro ⟨h1 | h1, h2⟩
      · exact ⟨h1, fun hh => h2 (.inl hh)⟩
      · exact absurd (.inr h1) h2
    · rintro ⟨h1, h2⟩
      exact ⟨.inl h1, fun hh => hh.elim h2 (fun e => by subst e; omega)⟩
  have prx : ∀ x k, x ≠ v → (s.enter v).Pr x k → s.Pr x k := fun x k e hk => by
    rcases hk with hk | ⟨nx, h1, h2⟩
    · exact .inl fun hh => hk ((mp x).2 (.inl hh))
    · refine .inr ⟨nx, ?_, h2⟩
      have : (x, nx) ∈ s.path ++ [(v, 0)] := h1
      rcases List.mem_append.1 this with h3 | h3
      · exact h3
      · simp at h3; exact absurd h3.1 e
  have prv : ∀ k, ¬ (s.enter v).Pr v k := fun k hk => by
    rcases hk with hk | ⟨nx, h1, h2⟩
    · exact hk ((mp v).2 (.inr rfl))
    · have : (v, nx) ∈ s.path ++ [(v, 0)] := h1
      rcases List.mem_append.1 this with h3 | h3
      · exact hvp (List.mem_map.2 ⟨_, h3, rfl⟩)
      · simp at h3; omega
  have lt : ∀ x ∈ s.stk, s.idx x < s.cnt + 1 := fun x _ => by have := h.le x; omega
  constructor
  · intro x
    show (s.enter v).idx x ≤ s.cnt + 1
    by_cases e : x = v
    · subst e; rw [iv]; omega
    · rw [ix x e]; have := h.le x; omega
  · intro x hx
    rcases (pos x).1 hx with hx | rfl
    · exact h.nod x hx
    · exact hv
  · intro x hx
    exact (pos x).2 (((ms x).1 hx).imp (h.stk x) id)
  · intro x
    rw [ms, ← h.on]
    show setF s.on v true x = true ↔ _
    by_cases e : x = v
    · subst e; rw [setF_at]; simp
    · rw [setF_ne _ _ e]; simp [e]
  · show (s.stk ++ [v]).Pairwise _
    rw [List.pairwise_append]
    refine ⟨h.ord.imp_of_mem fun ha hb hab => by rw [ix _ (ne _ ha), ix _ (ne _ hb)]; exact hab, List.pairwise_singleton _ _, fun a ha b hb => ?_⟩
    simp at hb
    subst hb
    rw [ix a (ne a ha), iv]
    exact lt a ha
  · rw [TS.enter_pn]
    exact h.psub.append (List.Sublist.refl [v])
  · intro x hx
    rcases (ms x).1 hx with hx' | rfl
    · obtain ⟨p, hp1, hp2⟩ := h.bot x hx'
      exact ⟨p, (mp p).2 (.inl hp1), by rw [ix p (ne p (h.pstk hp1)), ix x (ne x hx')]; exact hp2⟩
    · exact ⟨x, (mp x).2 (.inr rfl), Nat.le_refl _⟩
  · intro x hx
    exact h.dk x ((dn x).1 hx)
  · intro k hk
    obtain ⟨h1, h2, h3⟩ := h.kd k hk
    exact ⟨h1, h2, fun x hx => ⟨(dn x).2 (h3 x hx).1, (h3 x hx).2⟩⟩
  · intro x w hx he
    obtain ⟨h1, h2⟩ := h.cl x w ((dn x).1 hx) he
    exact ⟨(dn w).2 h1, h2⟩
  · intro x u hx hu
    exact h.scc x u ((dn x).1 hx) ((dn u).1 hu)
  · intro x hx k w hk he
    rcases (ms x).1 hx with hx' | rfl
    · exact (pos w).2 (.inl (h.pr x hx' k w (prx x k (ne x hx') hk) he))
    · exact absurd hk (prv k)
  · intro x hx hxp
    rcases (ms x).1 hx with hx' | rfl
    · obtain ⟨y, hy, h1, h2⟩ := h.j1 x hx' fun hh => hxp ((mp x).2 (.inl hh))
      exact ⟨y, (ms y).2 (.inl hy), by rw [ix y (ne y hy), ix x (ne x hx')]; exact h1, h2⟩
    · exact absurd ((mp x).2 (.inr rfl)) hxp
  · intro p hp' x hx hle
    rcases (mp p).1 hp' with hp1 | rfl
    · rcases (ms x).1 hx with hx' | rfl
      · rw [ix p (ne p (h.pstk hp1)), ix x (ne x hx')] at hle
        exact h.j2 p hp1 x hx' hle
      · exact hp p hp1
    · rcases (ms x).1 hx with hx' | rfl
      · rw [iv, ix x (ne x hx')] at hle
        have := lt x hx'
        omega
      · exact .refl _
  · intro p hp'
    rcases (mp p).1 hp' with hp1 | rfl
    · obtain ⟨h1, y, hy, h2, h3⟩ := h.j3 p hp1
      have hpv := ne p (h.pstk hp1)
      exact ⟨by rw [lx p hpv, ix p hpv]; exact h1, y, (ms y).2 (.inl hy), by rw [ix y (ne y hy), lx p hpv]; exact h2, h3⟩
    · exact ⟨by rw [lv, iv]; exact Nat.le_refl _, p, (ms p).2 (.inr rfl), by rw [iv, lv], .refl _⟩
  · intro A u nx B hpath x hx hle hB k w hk he hw
    have hpath : s.path ++ [(v, 0)] = A ++ (u, nx) :: B := hpath
    rcases (ms x).1 hx with hx' | rfl
    · have hxv := ne x hx'
      rw [ix x hxv] at hle hB
      have hk' := prx x k hxv hk
      have hu : u ∈ (s.enter v).pn := List.mem_map.2 ⟨(u, nx), by show _ ∈ s.path ++ [(v, 0)]; rw [hpath]; simp, rfl⟩
      have huv : u ≠ v := fun e => by
        subst e
        rw [iv] at hle
        have := lt x hx'
        omega
      have hus : u ∈ s.pn := ((mp u).1 hu).resolve_right huv
      rw [ix u huv] at hle
      rw [lx u huv]
      rcases List.eq_nil_or_concat B with rfl | ⟨B', b, rfl⟩
      · have := congrArg List.getLast? hpath
        simp at this
        exact absurd this.1.symm huv
      · have e2 : s.path ++ [(v, 0)] = (A ++ (u, nx) :: B') ++ [b] := by rw [hpath]; simp
        have e3 := List.append_inj' e2 rfl
        rcases (ms w).1 hw with hw' | rfl
        · rw [ix w (ne w hw')]
          refine h.j4 A u nx B' e3.1 x hx' hle (fun c hc => ?_) k w hk' he hw'
          have := hB c (by simp [hc])
          have hcs : c.1 ∈ s.stk := h.pstk (List.mem_map.2 ⟨c, by rw [e3.1]; simp [hc], rfl⟩)
          rwa [ix c.1 (ne _ hcs)] at this
        · have := h.pr x hx' k w hk' he
          omega
    · exact absurd hk (prv k)
theorem TInv.pnd (h : TInv g s) : s.pn.Pairwise fun a b => s.idx a < s.idx b := h.ord.sublist h.psub
/-- The path's order. -/
theorem TInv.plt (h : TInv g s) {A B : List (Nat × Nat)} {v nx : Nat} (hp : s.path = A ++ (v, nx) :: B) : (∀ a ∈ A, s.idx a.1 < s.idx v) ∧ ∀ b ∈ B, s.idx v < s.idx b.1 := by
  have := h.pnd
  unfold TS.pn at this
  rw [hp, List.map_append, List.map_cons, List.pairwise_append, List.pairwise_cons] at this
  exact ⟨fun a ha => this.2.2 a.1 (List.mem_map.2 ⟨a, ha, rfl⟩) v (by simp), fun b hb => this.2.1.1 b.1 (List.mem_map.2 ⟨b, hb, rfl⟩)⟩
/-- A frame goes on to the next edge. -/
def TS.adv (s : TS) (A B : List (Nat × Nat)) (v nx m : Nat) : TS := { s with path := A ++ (v, nx + 1) :: B, low := setF s.low v m }
theorem TInv.adv (h : TInv g s) {A B : List (Nat × Nat)} {v nx m : Nat} (hp : s.path = A ++ (v, nx) :: B) (hm : m ≤ s.low v) (hmw : m = s.low v ∨ ∃ w ∈ s.stk, EdK g v nx w ∧ m = s.idx w) (he : ∀ w, EdK g v nx w → 0 < s.idx w ∧ (w ∈ s.stk → m ≤ s.idx w)) : TInv g (s.adv A B v nx m) := by
  have hpn : (s.adv A B v nx m).pn = s.pn := by simp [TS.adv, TS.pn, hp]
  have hvp : v ∈ s.pn := by unfold TS.pn; rw [hp]; simp
  have hvs := h.pstk hvp
  obtain ⟨hA, hB⟩ := h.plt hp
  have lv : (s.adv A B v nx m).low v = m := setF_at ..
  have lx : ∀ x, x ≠ v → (s.adv A B v nx m).low x = s.low x := fun x hx => setF_ne _ _ hx
  have prx : ∀ x k, (s.adv A B v nx m).Pr x k → s.Pr x k ∨ (x = v ∧ k = nx) := fun x k hk => by
    rcases hk with hk | ⟨n1, h1, h2⟩
    · rw [hpn] at hk
      exact .inl (.inl hk)
    · have h1 : (x, n1) ∈ A ++ (v, nx + 1) :: B := h1
      rcases List.mem_append.1 h1 with h3 | h3
      · exact .inl (.inr ⟨n1, by rw [hp]; exact List.mem_append.2 (.inl h3), h2⟩)
      · rcases List.mem_cons.1 h3 with h4 | h4
        · injection h4 with h5 h6
          by_cases e : k = nx
          · exact .inr ⟨h5, e⟩
          · exact .inl (.inr ⟨nx, by rw [hp, h5]; simp, by omega⟩)
        · exact .inl (.inr ⟨n1, by rw [hp]; simp [h4], h2⟩)
  refine { le := h.le, nod := h.nod, stk := h.stk, on := h.on, ord := h.ord, psub := hpn ▸ h.psub, bot := fun x hx => hpn ▸ h.bot x hx, dk := h.dk, kd := h.kd, cl := h.cl, scc := h.scc, pr := ?_, j1 := fun x hx hxp => h.j1 x hx (hpn ▸ hxp), j2 := fun q hq => h.j2 q (hpn ▸ hq), j3 := ?_, j4 := ?_ }
  · intro x hx k w hk hw
    rcases prx x k hk with hk | ⟨rfl, rfl⟩
    · exact h.pr x hx k w hk hw
    · exact (he w hw).1
  · intro q hq
    rw [hpn] at hq
    obtain ⟨h1, y, hy, h2, h3⟩ := h.j3 q hq
    by_cases e : q = v
    · subst e
      rw [lv]
      refine ⟨by show m ≤ s.idx q; omega, ?_⟩
      rcases hmw with rfl | ⟨w, hw, hw2, rfl⟩
      · exact ⟨y, hy, h2, h3⟩
      · exact ⟨w, hw, rfl, .one ⟨_, hw2⟩⟩
    · rw [lx q e]
      exact ⟨h1, y, hy, h2, h3⟩
  · intro A' u n1 B' hpath x hx hle hBx k w hk hw hws
    have hpath : A ++ (v, nx + 1) :: B = A' ++ (u, n1) :: B' := hpath
    have hu : u ∈ s.pn := by
      rw [← hpn]
      exact List.mem_map.2 ⟨(u, n1), by show _ ∈ A ++ (v, nx + 1) :: B; rw [hpath]; simp, rfl⟩
    -- the frame of old
    have old : ∃ A0 n0 B0, s.path = A0 ++ (u, n0) :: B0 ∧ (∀ b ∈ B0, ∃ n2, (b.1, n2) ∈ B') := by
      have hmap : ∀ (l l' : List (Nat × Nat)), l.map (·.1) = l'.map (·.1) → ∀ C D u1 n1, l' = C ++ (u1, n1) :: D → ∃ C0 n0 D0, l = C0 ++ (u1, n0) :: D0 ∧ D0.map (·.1) = D.map (·.1) := by
        intro l l' hl C D u1 n1 e
        subst e
        rw [List.map_append, List.map_cons] at hl
        obtain ⟨C0, D1, rfl, h2, h3⟩ := List.map_eq_append_iff.1 hl
        obtain ⟨c, D0, rfl, h4, h5⟩ := List.map_eq_cons_iff.1 h3
        have h4 : c.1 = u1 := h4
        exact ⟨C0, c.2, D0, by rw [← h4], h5⟩
      obtain ⟨C0, n0, D0, e1, e2⟩ := hmap s.path (A ++ (v, nx + 1) :: B) (by rw [hp]; simp) A' B' u n1 hpath
      refine ⟨C0, n0, D0, e1, fun b hb => ?_⟩
      have : b.1 ∈ B'.map (·.1) := by rw [← e2]; exact List.mem_map.2 ⟨b, hb, rfl⟩
      obtain ⟨c, hc, e⟩ := List.mem_map.1 this
      exact ⟨c.2, by rw [← e]; exact hc⟩
    obtain ⟨A0, n0, B0, e1, e2⟩ := old
    have hB0 : ∀ b ∈ B0, s.idx x < s.idx b.1 := fun b hb => by
      obtain ⟨n2, hn2⟩ := e2 b hb
      have := hBx (b.1, n2) hn2
      exact this
    have hws : w ∈ s.stk := hws
    have hx : x ∈ s.stk := hx
    have hle : s.idx u ≤ s.idx x := hle
    rcases prx x k hk with hk | ⟨rfl, rfl⟩
    · have h1 := h.j4 A0 u n0 B0 e1 x hx hle hB0 k w hk hw hws
      show (s.adv A B v nx m).low u ≤ s.idx w
      by_cases e : u = v
      · subst e
        rw [lv]
        omega
      · rw [lx u e]
        exact h1
    · -- the frame itself
      have huv : u = x := by
        apply Classical.byContradiction
        intro hne
        have hlt : s.idx u < s.idx x := Nat.lt_of_le_of_ne hle fun e => hne (h.inj (h.pstk hu) hx e)
        have hxB : x ∈ B0.map (·.1) := by
          have hxp : x ∈ s.pn := hvp
          unfold TS.pn at hxp
          rw [e1, List.map_append, List.map_cons] at hxp
          rcases List.mem_append.1 hxp with h3 | h3
          · obtain ⟨c, hc, e⟩ := List.mem_map.1 h3
            have := (h.plt e1).1 c hc
            rw [e] at this
            omega
          · rcases List.mem_cons.1 h3 with h4 | h4
            · exact absurd h4.symm hne
            · exact h4
        obtain ⟨b, hb, e⟩ := List.mem_map.1 hxB
        have := hB0 b hb
        rw [e] at this
        omega
      subst huv
      show (s.adv A B u k m).low u ≤ s.idx w
      rw [lv]
      exact (he w hw).2 hws
end
section
variable {g : List (List Int)} {s : TS}
/-- A frame is done, but its node comes to one ahead: the frame ahead takes what it found. -/
def TS.pop (s : TS) (A : List (Nat × Nat)) (u k m : Nat) : TS := { s with path := A ++ [(u, k)], low := setF s.low u m }
theorem TInv.pop (h : TInv g s) {A : List (Nat × Nat)} {u k v nx : Nat} (hp : s.path = A ++ [(u, k), (v, nx)]) (hall : ∀ k w, EdK g v k w → k < nx) (hne : s.low v ≠ s.idx v) : TInv g (s.pop A u k (min (s.low u) (s.low v))) := by
  have hp2 : s.path = (A ++ [(u, k)]) ++ (v, nx) :: [] := by rw [hp]; simp
  have hp3 : s.path = A ++ (u, k) :: [(v, nx)] := hp
  have hpn : s.pn = (s.pop A u k (min (s.low u) (s.low v))).pn ++ [v] := by simp [TS.pop, TS.pn, hp]
  have hup : u ∈ s.pn := by unfold TS.pn; rw [hp]; simp
  have hvp : v ∈ s.pn := by unfold TS.pn; rw [hp]; simp
  have huv : s.idx u < s.idx v := (h.plt hp3).2 (v, nx) (by simp)
  obtain ⟨hlv, y, hy, hy2, hy3⟩ := h.j3 v hvp
  obtain ⟨hlu, z, hz, hz2, hz3⟩ := h.j3 u hup
  have hvs := h.pstk hvp
  have mp : ∀ x, x ∈ s.pn ↔ x ∈ (s.pop A u k (min (s.low u) (s.low v))).pn ∨ x = v := fun x => by rw [hpn]; simp
  have lu : (s.pop A u k (min (s.low u) (s.low v))).low u = min (s.low u) (s.low v) := setF_at ..
  have lx : ∀ x, x ≠ u → (s.pop A u k (min (s.low u) (s.low v))).low x = s.low x := fun x hx => setF_ne _ _ hx
  have prx : ∀ x j w, EdK g x j w → (s.pop A u k (min (s.low u) (s.low v))).Pr x j → s.Pr x j := fun x j w he hk => by
    by_cases e : x = v
    · subst e
      exact .inr ⟨nx, by rw [hp]; simp, hall j w he⟩
    · rcases hk with hk | ⟨n1, h1, h2⟩
      · exact .inl fun hh => ((mp x).1 hh).elim hk e
      · have h1 : (x, n1) ∈ A ++ [(u, k)] := h1
        exact .inr ⟨n1, by rw [hp2]; exact List.mem_append.2 (.inl h1), h2⟩
  have low : ∀ x ∈ s.stk, s.idx x < s.idx v → x ≠ v := fun x _ hx e => by subst e; omega
  refine { le := h.le, nod := h.nod, stk := h.stk, on := h.on, ord := h.ord, psub := ?_, bot := fun x hx => ?_, dk := h.dk, kd := h.kd, cl := h.cl, scc := h.scc, pr := fun x hx j w hk he => h.pr x hx j w (prx x j w he hk) he, j1 := fun x hx hxp => ?_, j2 := fun q hq => h.j2 q ((mp q).2 (.inl hq)), j3 := fun q hq => ?_, j4 := ?_ }
  · have := h.psub
    rw [hpn] at this
    exact (List.sublist_append_left _ _).trans this
  · obtain ⟨q, hq, hq2⟩ := h.bot x hx
    rcases (mp q).1 hq with hq | rfl
    · exact ⟨q, hq, hq2⟩
    · exact ⟨u, by simp [TS.pop, TS.pn], by show s.idx u ≤ s.idx x; omega⟩
  · by_cases e : x = v
    · subst e
      exact ⟨y, hy, by show s.idx y < s.idx x; omega, hy3⟩
    · exact h.j1 x hx fun hh => ((mp x).1 hh).elim hxp e
  · by_cases e : q = u
    · subst e
      rw [lu]
      refine ⟨by show _ ≤ s.idx q; omega, ?_⟩
      by_cases hc : s.low q ≤ s.low v
      · exact ⟨z, hz, by rw [Nat.min_eq_left hc]; exact hz2, hz3⟩
      · exact ⟨y, hy, by rw [Nat.min_eq_right (by omega)]; exact hy2, (h.j2 q hup v hvs (by omega)).trans hy3⟩
    · rw [lx q e]
      exact h.j3 q ((mp q).2 (.inl hq))
  · intro A' a n1 B' hpath x hx hle hBx j w hk he hws
    have hpath : A ++ [(u, k)] = A' ++ (a, n1) :: B' := hpath
    have hx : x ∈ s.stk := hx
    have hws : w ∈ s.stk := hws
    have hle : s.idx a ≤ s.idx x := hle
    have hk' := prx x j w he hk
    have hfull : s.path = A' ++ (a, n1) :: (B' ++ [(v, nx)]) := by rw [hp2, hpath]; simp
    by_cases hxv : s.idx x < s.idx v
    · have h1 := h.j4 A' a n1 (B' ++ [(v, nx)]) hfull x hx hle (fun b hb => by
        rcases List.mem_append.1 hb with hb | hb
        · exact hBx b hb
        · simp at hb; rw [hb]; exact hxv) j w hk' he hws
      show (s.pop A u k (min (s.low u) (s.low v))).low a ≤ s.idx w
      by_cases e : a = u
      · subst e; rw [lu]; omega
      · rw [lx a e]; exact h1
    · have h1 := h.j4 (A ++ [(u, k)]) v nx [] hp2 x hx (by omega) (fun b hb => by cases hb) j w hk' he hws
      have hau : a = u := by
        rcases List.eq_nil_or_concat B' with rfl | ⟨B2, b, rfl⟩
        · have := congrArg List.getLast? hpath
          simp at this
          exact this.1.symm
        · have e2 : A ++ [(u, k)] = (A' ++ (a, n1) :: B2) ++ [b] := by rw [hpath]; simp
          have e3 := List.append_inj' e2 rfl
          have e4 : b = (u, k) := by have := e3.2; simp at this; exact this.symm
          have := hBx b (by simp)
          rw [e4] at this
          have this : s.idx x < s.idx u := this
          omega
      subst hau
      show (s.pop A a k (min (s.low a) (s.low v))).low a ≤ s.idx w
      rw [lu]
      omega
/-- A knot is found: from the node on that comes to none ahead. -/
def TS.leave (s : TS) (A : List (Nat × Nat)) (L T l : List Nat) : TS := ⟨s.idx, s.low, fun x => s.on x && !decide (x ∈ T), L, fun x => if x ∈ T then s.kn.length else s.of x, s.cnt, s.kn ++ [l], A⟩
theorem TInv.leave (h : TInv g s) {A : List (Nat × Nat)} {v nx : Nat} {L T l : List Nat} (hp : s.path = A ++ [(v, nx)]) (hall : ∀ k w, EdK g v k w → k < nx) (he : s.low v = s.idx v) (hs : s.stk = L ++ T) (hT : T.head? = some v) (hl : l.Pairwise (· < ·)) (hlT : ∀ x, x ∈ l ↔ x ∈ T) : TInv g (s.leave A L T l) := by
  have hp2 : s.path = A ++ (v, nx) :: [] := hp
  have hvp : v ∈ s.pn := by unfold TS.pn; rw [hp]; simp
  have hvs := h.pstk hvp
  have hvT : v ∈ T := by cases T with
    | nil => cases hT
    | cons a r => simp at hT; simp [hT]
  have hord := h.ord
  rw [hs, List.pairwise_append] at hord
  obtain ⟨oL, oT, oLT⟩ := hord
  have hTge : ∀ x ∈ T, s.idx v ≤ s.idx x := fun x hx => by
    cases T with
    | nil => cases hT
    | cons a r =>
      simp at hT
      subst hT
      rcases List.mem_cons.1 hx with e | hx
      · rw [e]; exact Nat.le_refl _
      · exact Nat.le_of_lt ((List.pairwise_cons.1 oT).1 x hx)
  have hLlt : ∀ x ∈ L, s.idx x < s.idx v := fun x hx => oLT x hx v hvT
  have mT : ∀ x, x ∈ T ↔ x ∈ s.stk ∧ s.idx v ≤ s.idx x := fun x => by
    rw [hs, List.mem_append]
    constructor
    · exact fun hx => ⟨.inr hx, hTge x hx⟩
    · rintro ⟨hx | hx, h2⟩
      · have := hLlt x hx; omega
      · exact hx
  have mL : ∀ x, x ∈ L ↔ x ∈ s.stk ∧ x ∉ T := fun x => by
    constructor
    · intro hx
      exact ⟨by rw [hs]; exact List.mem_append.2 (.inl hx), fun hh => by have := hLlt x hx; have := hTge x hh; omega⟩
    · rintro ⟨hx, h2⟩
      rw [hs, List.mem_append] at hx
      exact hx.resolve_right h2
  have hpnA : s.pn = A.map (·.1) ++ [v] := by simp [TS.pn, hp]
  have hA : ∀ a ∈ A, s.idx a.1 < s.idx v := (h.plt hp2).1
  have hpnT : ∀ x ∈ T, x ∈ s.pn → x = v := fun x hx hxp => by
    rw [hpnA] at hxp
    rcases List.mem_append.1 hxp with h1 | h1
    · obtain ⟨a, ha, e⟩ := List.mem_map.1 h1
      have := hA a ha
      have := hTge x hx
      rw [e] at *
      omega
    · simpa using h1
  -- all edges of the knot were looked at
  have prT : ∀ x ∈ T, ∀ j w, EdK g x j w → s.Pr x j := fun x hx j w hj => by
    by_cases e : x ∈ s.pn
    · have := hpnT x hx e
      subst this
      exact .inr ⟨nx, by rw [hp]; simp, hall j w hj⟩
    · exact .inl e
  have clT : ∀ x ∈ T, ∀ w, Ed g x w → w ∈ T ∨ s.Dn w := fun x hx w ⟨j, hj⟩ => by
    have hxs := ((mT x).1 hx).1
    have hk := prT x hx j w hj
    have h1 := h.pr x hxs j w hk hj
    by_cases hw : w ∈ s.stk
    · refine .inl ((mT w).2 ⟨hw, ?_⟩)
      have := h.j4 A v nx [] hp2 x hxs (hTge x hx) (fun b hb => by cases hb) j w hk hj hw
      omega
    · exact .inr ⟨h1, hw⟩
  have dnT : ∀ x ∈ T, ¬ s.Dn x := fun x hx hh => hh.2 ((mT x).1 hx).1
  have down : ∀ x ∈ T, Rg g v x := fun x hx => h.j2 v hvp x ((mT x).1 hx).1 (hTge x hx)
  have clTD : ∀ a b, (a ∈ T ∨ s.Dn a) → Ed g a b → (b ∈ T ∨ s.Dn b) := fun a b ha e => ha.elim (fun ha => clT a ha b e) fun ha => .inr (h.cl a b ha e).1
  have up : ∀ m x, x ∈ T → s.idx x = m → Rg g x v := by
    intro m
    induction m using Nat.strongRecOn with
    | _ m ih =>
      intro x hx hm
      by_cases e : x ∈ s.pn
      · rw [hpnT x hx e]; exact .refl _
      · obtain ⟨y, hy, h1, h2⟩ := h.j1 x ((mT x).1 hx).1 e
        have hyT : y ∈ T := ((h2.closed clTD) (.inl hx)).resolve_right fun hh => hh.2 hy
        exact h2.trans (ih (s.idx y) (by omega) y hyT rfl)
  have clD : ∀ a b, s.Dn a → Ed g a b → s.Dn b := fun a b ha e => (h.cl a b ha e).1
  have ofT : ∀ x ∈ T, (s.leave A L T l).of x = s.kn.length := fun x hx => if_pos hx
  have ofD : ∀ x, x ∉ T → (s.leave A L T l).of x = s.of x := fun x hx => if_neg hx
  have dn : ∀ x, (s.leave A L T l).Dn x ↔ s.Dn x ∨ x ∈ T := fun x => by
    show 0 < s.idx x ∧ x ∉ L ↔ _
    rw [mL]
    constructor
    · rintro ⟨h1, h2⟩
      by_cases e : x ∈ s.stk
      · exact .inr (Classical.byContradiction fun hh => h2 ⟨e, hh⟩)
      · exact .inl ⟨h1, e⟩
    · rintro (h1 | h1)
      · exact ⟨h1.1, fun hh => h1.2 hh.1⟩
      · exact ⟨h.stk x ((mT x).1 h1).1, fun hh => hh.2 h1⟩
  have mp : ∀ x, x ∈ (s.leave A L T l).pn ↔ x ∈ s.pn ∧ x ≠ v := fun x => by
    show x ∈ A.map (·.1) ↔ _
    rw [hpnA]
    constructor
    · intro hx
      refine ⟨by simp only [List.mem_append]; exact .inl hx, fun e => ?_⟩
      obtain ⟨a, ha, e2⟩ := List.mem_map.1 hx
      have := hA a ha
      rw [e2, e] at this
      omega
    · rintro ⟨hx, h2⟩
      rcases List.mem_append.1 hx with h1 | h1
      · exact h1
      · simp at h1; exact absurd h1 h2
  have knl : ∀ k, k < s.kn.length → (s.leave A L T l).kn[k]! = s.kn[k]! := fun k hk => by
    show (s.kn ++ [l])[k]! = _
    rw [getElem!_pos _ k (by simp; omega), getElem!_pos _ k hk, List.getElem_append_left hk]
  have kne : (s.leave A L T l).kn[s.kn.length]! = l := by
    show (s.kn ++ [l])[s.kn.length]! = _
    rw [getElem!_pos _ _ (by simp)]
    simp
  have knL : (s.leave A L T l).kn.length = s.kn.length + 1 := by simp [TS.leave]
  have pr2 : ∀ x ∈ L, ∀ j, (s.leave A L T l).Pr x j → s.Pr x j := fun x hx j hk => by
    have hxv : x ≠ v := fun e => ((mL x).1 hx).2 (e ▸ hvT)
    rcases hk with hk | ⟨n1, h1, h2⟩
    · exact .inl fun hh => hk ((mp x).2 ⟨hh, hxv⟩)
    · have h1 : (x, n1) ∈ A := h1
      exact .inr ⟨n1, by rw [hp]; simp [h1], h2⟩
  refine { le := h.le, nod := h.nod, stk := fun x hx => h.stk x ((mL x).1 hx).1, on := fun x => ?_, ord := oL, psub := ?_, bot := fun x hx => ?_, dk := fun x hx => ?_, kd := fun k hk => ?_, cl := fun x w hx e => ?_, scc := fun x u hx hu => ?_, pr := fun x hx j w hk hj => h.pr x ((mL x).1 hx).1 j w (pr2 x hx j hk) hj, j1 := fun x hx hxp => ?_, j2 := fun q hq x hx => h.j2 q ((mp q).1 hq).1 x ((mL x).1 hx).1, j3 := fun q hq => ?_, j4 := ?_ }
  · show (s.on x && !decide (x ∈ T)) = true ↔ x ∈ L
    rw [mL, Bool.and_eq_true, h.on, Bool.not_eq_true', decide_eq_false_iff_not]
  · show (A.map (·.1)).Sublist L
    have h1 := h.psub
    rw [hpnA, hs] at h1
    have h2 : (A.map (·.1)).Sublist (L ++ T) := (List.sublist_append_left _ _).trans h1
    obtain ⟨l1, l2, e, s1, s2⟩ := List.sublist_append_iff.1 h2
    have : l2 = [] := by
      cases l2 with
      | nil => rfl
      | cons c r =>
        have hc : c ∈ T := s2.subset (by simp)
        have hcA : c ∈ A.map (·.1) := by rw [e]; simp
        obtain ⟨a, ha, e2⟩ := List.mem_map.1 hcA
        have := hA a ha
        have := hTge c hc
        rw [e2] at *
        omega
    rw [e, this, List.append_nil]
    exact s1
  · obtain ⟨q, hq, hq2⟩ := h.bot x ((mL x).1 hx).1
    refine ⟨q, (mp q).2 ⟨hq, fun e => ?_⟩, hq2⟩
    subst e
    have := hLlt x hx
    omega
  · by_cases e : x ∈ T
    · rw [ofT x e, knL, kne]
      exact ⟨by omega, (hlT x).2 e⟩
    · have hd := ((dn x).1 hx).resolve_right e
      obtain ⟨h1, h2⟩ := h.dk x hd
      rw [ofD x e, knL, knl _ h1]
      exact ⟨by omega, h2⟩
  · rw [knL] at hk
    by_cases e : k < s.kn.length
    · rw [knl k e]
      obtain ⟨h1, h2, h3⟩ := h.kd k e
      exact ⟨h1, h2, fun x hx => ⟨(dn x).2 (.inl (h3 x hx).1), by rw [ofD x fun hh => dnT x hh (h3 x hx).1]; exact (h3 x hx).2⟩⟩
    · have e : k = s.kn.length := by omega
      subst e
      rw [kne]
      refine ⟨fun e => ?_, hl, fun x hx => ⟨(dn x).2 (.inr ((hlT x).1 hx)), ofT x ((hlT x).1 hx)⟩⟩
      have := (hlT v).2 hvT
      rw [e] at this
      cases this
  · rcases (dn x).1 hx with hd | hd
    · have := h.cl x w hd e
      refine ⟨(dn w).2 (.inl this.1), ?_⟩
      rw [ofD x fun hh => dnT x hh hd, ofD w fun hh => dnT w hh this.1]
      exact this.2
    · rw [ofT x hd]
      rcases clT x hd w e with hw | hw
      · exact ⟨(dn w).2 (.inr hw), by rw [ofT w hw]; exact Nat.le_refl _⟩
      · exact ⟨(dn w).2 (.inl hw), by rw [ofD w fun hh => dnT w hh hw]; exact Nat.le_of_lt (h.dk w hw).1⟩
  · rcases (dn x).1 hx with hd | hd
    · have hxT : x ∉ T := fun hh => dnT x hh hd
      rcases (dn u).1 hu with he' | he'
      · rw [ofD x hxT, ofD u fun hh => dnT u hh he']
        exact h.scc x u hd he'
      · rw [ofD x hxT, ofT u he']
        constructor
        · intro e
          have := (h.dk x hd).1
          omega
        · intro e
          exact absurd ((e.1.closed clD) hd) (dnT u he')
    · rcases (dn u).1 hu with he' | he'
      · rw [ofT x hd, ofD u fun hh => dnT u hh he']
        constructor
        · intro e
          have := (h.dk u he').1
          omega
        · intro e
          exact absurd ((e.2.closed clD) he') (dnT x hd)
      · rw [ofT x hd, ofT u he']
        exact ⟨fun _ => ⟨(up _ x hd rfl).trans (down u he'), (up _ u he' rfl).trans (down x hd)⟩, fun _ => rfl⟩
  · have hxs := ((mL x).1 hx).1
    have hxv : x ≠ v := fun e => ((mL x).1 hx).2 (e ▸ hvT)
    obtain ⟨y, hy, h1, h2⟩ := h.j1 x hxs fun hh => hxp ((mp x).2 ⟨hh, hxv⟩)
    exact ⟨y, (mL y).2 ⟨hy, fun hh => by have := hLlt x hx; have := hTge y hh; omega⟩, h1, h2⟩
  · obtain ⟨hq1, hq2⟩ := (mp q).1 hq
    obtain ⟨h1, y, hy, h2, h3⟩ := h.j3 q hq1
    refine ⟨h1, y, (mL y).2 ⟨hy, fun hh => ?_⟩, h2, h3⟩
    have h4 := hTge y hh
    have hqA : q ∈ A.map (·.1) := hq
    obtain ⟨a, ha, e⟩ := List.mem_map.1 hqA
    have := hA a ha
    rw [e] at this
    omega
  · intro A' a n1 B' hpath x hx hle hBx j w hk hj hws
    have hpath : A = A' ++ (a, n1) :: B' := hpath
    have hfull : s.path = A' ++ (a, n1) :: (B' ++ [(v, nx)]) := by rw [hp, hpath]; simp
    exact h.j4 A' a n1 (B' ++ [(v, nx)]) hfull x ((mL x).1 hx).1 hle (fun b hb => by
      rcases List.mem_append.1 hb with hb | hb
      · exact hBx b hb
      · simp at hb
        rw [hb]
        exact hLlt x hx) j w (pr2 x hx j hk) hj ((mL w).1 hws).1
/-- Behind the last frame: the node that began it all is no one's but its own. -/
theorem TInv.last (h : TInv g s) {v nx : Nat} (hp : s.path = [(v, nx)]) : s.low v = s.idx v := by
  have hvp : v ∈ s.pn := by unfold TS.pn; rw [hp]; simp
  obtain ⟨h1, y, hy, h2, _⟩ := h.j3 v hvp
  obtain ⟨q, hq, hq2⟩ := h.bot y hy
  unfold TS.pn at hq
  rw [hp] at hq
  simp at hq
  subst hq
  omega
theorem TInv.empty (h : TInv g s) (hp : s.path = []) : s.stk = [] := by
  cases hs : s.stk with
  | nil => rfl
  | cons a r =>
    obtain ⟨q, hq, _⟩ := h.bot a (by rw [hs]; simp)
    unfold TS.pn at hq
    rw [hp] at hq
    cases hq
end
end Go.Proofs.Ytjggjhgbobmkhaa

/- Words: what a value's cells say of a Lean value, whatever its kind; how that stays; how arguments are opened. -/
namespace Go.Proofs.Ytjggjhgbobmkhaa
open Go.RowKit Go.ChangeShapes Go.WideShapes Go.ChangeAt
set_option linter.unusedVariables false
set_option linter.unusedSimpArgs false

/-- A fact that the walk doesn't look into. -/
structure Kp (p : Prop) : Prop where mk :: (out : p)

theorem retB {a b : Bool} (h : a = b) : Ending.returned (.bool a) = .returned (.bool b) := by rw [h]
theorem bup {a b c : World} (h : Below a.heap.size a b) (k : Below b.heap.size b c) : Below a.heap.size a c := h.trans (k.mono h.size)
theorem cell_up {w w1 : World} (h : Below w.heap.size w w1) {a : Addr} {v : Value} (hc : w.cell? a = some v) : w1.cell? a = some v := (h.cell (World.block_lt_of_cell? w a hc)).trans hc
theorem cell_heap {w w1 : World} (hb : ∀ k, k < w.heap.size → w1.heap[k]? = w.heap[k]?) {a : Addr} {v : Value} (h : w.cell? a = some v) : w1.cell? a = some v :=
  (World.cell?_of_block (hb a.block (World.block_lt_of_cell? w a h))).trans h
theorem add_block (a : Addr) (n : Nat) : (a.add n).block = a.block := by unfold Addr.add; split <;> rfl
theorem add_add (a : Addr) (m n : Nat) : (a.add m).add n = a.add (m + n) := by
  unfold Addr.add
  by_cases hm : m = 0
  · subst hm; simp
  · by_cases hn : n = 0
    · subst hn; simp [hm]
    · simp [hm, hn]; omega
theorem add_field (a : Addr) (m n : Nat) (hn : 0 < n) : (⟨(a.add m).block, (a.add m).off + n, none⟩ : Addr) = a.add (m + n) := by
  unfold Addr.add
  by_cases hm : m = 0
  · subst hm; simp [show n ≠ 0 by omega]
  · simp [hm]; omega
theorem add_zero (g j : Nat) : (⟨g, 0, none⟩ : Addr).add j = ⟨g, j, none⟩ := by unfold Addr.add; split <;> simp_all

/-! ### What cells say -/
abbrev Dec (α : Type) := World → List Value → α → Prop
/-- It looks at blocks that are there alone. -/
structure Stays {α : Type} (d : Dec α) : Prop where
  go : ∀ (w w1 : World) (cs : List Value) (x : α), (∀ k, k < w.heap.size → w1.heap[k]? = w.heap[k]?) → d w cs x → d w1 cs x
def dI (k : IntKind) : Dec Int := fun _ cs x => cs = [.int k x] ∧ k.min ≤ x ∧ x ≤ k.max
def dB : Dec Bool := fun _ cs x => cs = [.bool x]
/-- A row. -/
def RowR {α : Type} [Inhabited α] (sz : Nat) (d : Dec α) (w : World) (A : Option Addr) (xs : List α) : Prop :=
  xs.length ≤ 9223372036854775807 ∧ ∀ i, i < xs.length → ∃ ad cs, A = some ad ∧ cs.length = sz ∧ (∀ j u, cs[j]? = some u → w.cell? (ad.add (i * sz + j)) = some u) ∧ d w cs xs[i]!
def dS {α : Type} [Inhabited α] (sz : Nat) (d : Dec α) : Dec (List α) := fun w cs xs => ∃ A c, cs = [.slice A xs.length c] ∧ xs.length ≤ c ∧ RowR sz d w A xs
theorem stays_I (k : IntKind) : Stays (dI k) := ⟨fun _ _ _ _ _ h => h⟩
theorem stays_B : Stays dB := ⟨fun _ _ _ _ _ h => h⟩
theorem RowR.stays {α : Type} [Inhabited α] {sz : Nat} {d : Dec α} (hd : Stays d) {w w1 : World} {A : Option Addr} {xs : List α} (hb : ∀ k, k < w.heap.size → w1.heap[k]? = w.heap[k]?) (h : RowR sz d w A xs) : RowR sz d w1 A xs :=
  ⟨h.1, fun i hi => let ⟨ad, cs, e, l, hc, hk⟩ := h.2 i hi; ⟨ad, cs, e, l, fun j u hu => cell_heap hb (hc j u hu), hd.go _ _ _ _ hb hk⟩⟩
theorem stays_S {α : Type} [Inhabited α] {sz : Nat} {d : Dec α} (hd : Stays d) : Stays (dS sz d) := ⟨fun _ _ _ _ hb ⟨A, c, e, l, h⟩ => ⟨A, c, e, l, h.stays hd hb⟩⟩
theorem RowR.up {α : Type} [Inhabited α] {sz : Nat} {d : Dec α} (hd : Stays d) {w w1 : World} {A : Option Addr} {xs : List α} (h : RowR sz d w A xs) (hb : Below w.heap.size w w1) : RowR sz d w1 A xs := h.stays hd hb.block
theorem RowR.nil {α : Type} [Inhabited α] (sz : Nat) (d : Dec α) (w : World) (A : Option Addr) : RowR sz d w A [] := ⟨by simp, fun i hi => by simp at hi⟩

/-! ### Footprints: P holds in w and in every world that has w's blocks of ok. -/
def Ft (ok : Nat → Prop) (w : World) (P : World → Prop) : Prop := ∀ w', (∀ b, ok b → b < w.heap.size → w'.heap[b]? = w.heap[b]?) → P w'
theorem Ft.now {ok : Nat → Prop} {w : World} {P : World → Prop} (h : Ft ok w P) : P w := h w fun _ _ _ => rfl
theorem Ft.mono {ok ok' : Nat → Prop} {w : World} {P : World → Prop} (h : Ft ok w P) (hk : ∀ b, b < w.heap.size → ok b → ok' b) : Ft ok' w P := fun w' hw => h w' fun b hb hl => hw b (hk b hl hb) hl
theorem heap_lt {w w1 : World} {k : Nat} (h : w1.heap[k]? = w.heap[k]?) (hlt : k < w.heap.size) : k < w1.heap.size := by
  rw [Array.getElem?_eq_getElem hlt] at h
  exact (Array.getElem?_eq_some_iff.1 h).1
theorem Ft.step {ok : Nat → Prop} {w w1 : World} {P : World → Prop} (h : Ft ok w P) (hm : ∀ b, ok b → b < w.heap.size → w1.heap[b]? = w.heap[b]?) : Ft (fun b => ok b ∧ b < w.heap.size) w1 P :=
  fun w' hw => h w' fun b hb hl => (hw b ⟨hb, hl⟩ (heap_lt (hm b hb hl) hl)).trans (hm b hb hl)
theorem Ft.imp {ok : Nat → Prop} {w : World} {P Q : World → Prop} (h : Ft ok w P) (hi : ∀ w', P w' → Q w') : Ft ok w Q := fun w' hw => hi w' (h w' hw)
theorem Ft.up {ok : Nat → Prop} {w w1 : World} {P : World → Prop} (h : Ft ok w P) (hb : Below w.heap.size w w1) : Ft (fun b => ok b ∧ b < w.heap.size) w1 P := h.step fun b _ hl => hb.block b hl
theorem Ft.grown {ok : Nat → Prop} {w w1 : World} {P : World → Prop} {row : Option Nat} (h : Ft ok w P) (hg : w.grownBy w1 row) (hne : ∀ b, ok b → b < w.heap.size → some b ≠ row) : Ft (fun b => ok b ∧ b < w.heap.size) w1 P := h.step fun b hb hl => hg.block b hl (hne b hb hl)
theorem Ft.of {α : Type} {d : Dec α} (hd : Stays d) {w : World} {cs : List Value} {x : α} (h : d w cs x) : Ft (fun _ => True) w (fun w => d w cs x) := fun _ hw => hd.go _ _ _ _ (fun k hk => hw k trivial hk) h

/-! ### Rows that the call itself makes -/
/-- The elements of a row, out of its cells. -/
def Elems {α : Type} [Inhabited α] (sz : Nat) (d : Dec α) (w : World) (flat : List Value) (xs : List α) : Prop :=
  flat.length = xs.length * sz ∧ ∀ i, i < xs.length → d w ((flat.drop (i * sz)).take sz) xs[i]!
theorem Elems.nil {α : Type} [Inhabited α] (sz : Nat) (d : Dec α) (w : World) : Elems sz d w [] [] := ⟨by simp, fun i hi => by simp at hi⟩
theorem Elems.push {α : Type} [Inhabited α] {sz : Nat} {d : Dec α} {w : World} {flat cs : List Value} {xs : List α} {x : α} (h : Elems sz d w flat xs) (hc : cs.length = sz) (hx : d w cs x) : Elems sz d w (flat ++ cs) (xs ++ [x]) := by
  refine ⟨by simp [h.1, hc, Nat.add_mul], fun i hi => ?_⟩
  simp only [List.length_append, List.length_singleton] at hi
  rcases Nat.lt_or_ge i xs.length with hl | hl
  · have h1 : i * sz + sz ≤ flat.length := by rw [h.1, ← Nat.succ_mul]; exact Nat.mul_le_mul_right _ hl
    have e1 : ((flat ++ cs).drop (i * sz)).take sz = (flat.drop (i * sz)).take sz := by
      rw [List.drop_append_of_le_length (by omega), List.take_append_of_le_length (by simp; omega)]
    have e2 : (xs ++ [x])[i]! = xs[i]! := by
      simp [List.getElem!_eq_getElem?_getD, List.getElem?_append_left hl]
    rw [e1, e2]
    exact h.2 i hl
  · have : i = xs.length := by omega
    subst this
    have e1 : ((flat ++ cs).drop (xs.length * sz)).take sz = cs := by
      rw [← h.1, List.drop_left, ← hc, List.take_length]
    have e2 : (xs ++ [x])[xs.length]! = x := by simp
    rw [e1, e2]
    exact hx
theorem Elems.stays {α : Type} [Inhabited α] {sz : Nat} {d : Dec α} (hd : Stays d) {w w1 : World} {flat : List Value} {xs : List α} (hb : ∀ k, k < w.heap.size → w1.heap[k]? = w.heap[k]?) (h : Elems sz d w flat xs) : Elems sz d w1 flat xs := ⟨h.1, fun i hi => hd.go _ _ _ _ hb (h.2 i hi)⟩
theorem row_of_own {α : Type} [Inhabited α] {sz : Nat} {d : Dec α} {w : World} {base : Nat} {e : TypeId} {v : Value} {n : Nat} {flat : List Value} {xs : List α} (h : w.ownsRow base e sz v n flat) (hn : n = xs.length) (he : Elems sz d w flat xs) :
    ∃ A c, v = .slice A xs.length c ∧ xs.length ≤ c ∧ RowR sz d w A xs := by
  subst hn
  rcases Nat.eq_zero_or_pos xs.length with h0 | h0
  · have hx : xs = [] := List.eq_nil_of_length_eq_zero h0
    subst hx
    rcases h.2 with ⟨rfl, _⟩ | ⟨g, cap, cur, rfl, _⟩
    · exact ⟨none, 0, rfl, Nat.le_refl _, RowR.nil ..⟩
    · exact ⟨_, cap, rfl, by simp, RowR.nil ..⟩
  · obtain ⟨g, cap, rfl, hg, hc⟩ := h.form h0
    have hm : xs.length ≤ cap ∧ cap ≤ maxLen := by
      rcases h.2 with ⟨e, _⟩ | ⟨g', cap', cur, e, _, _, h1, h2, _⟩
      · cases e
      · injection e with _ _ e3
        subst e3
        exact ⟨h1, h2⟩
    refine ⟨_, cap, rfl, hm.1, by have := hm.2; simp only [maxLen] at this; omega, fun i hi => ⟨_, (flat.drop (i * sz)).take sz, rfl, ?_, ?_, he.2 i hi⟩⟩
    · have h1 : i * sz + sz ≤ flat.length := by rw [he.1, ← Nat.succ_mul]; exact Nat.mul_le_mul_right _ hi
      simp; omega
    · intro j u hu
      refine h.cells (g := g) rfl (i * sz + j) u ?_
      rw [List.getElem?_take] at hu
      split at hu
      · rw [List.getElem?_drop] at hu; exact hu
      · cases hu

/-! ### Opening what came in -/
section
variable {H : Type} {enc : TypeId × Value → H} {P : Program} {w : World} {base : Nat} {spare : Nat → Bool} {held : Bool}
def Opens {α : Type} (enc : TypeId × Value → H) (P : Program) (w : World) (base : Nat) (spare : Nat → Bool) (held : Bool) (t : TypeId) (d : Dec α) : Prop :=
  ∀ {fuel : Nat} {cs : List Value} {x : DataW H × List MemPlace}, DataW.trod enc P w base spare held fuel t cs = some x → ∃ a, d w cs a
theorem wf_range {k : IntKind} {n : Int} (h : (Lit.int k n).wf = true) : k.min ≤ n ∧ n ≤ k.max := by
  simp only [Lit.wf] at h
  simpa using h
theorem opens_I {t : TypeId} {k : IntKind} (ht : P.underlying t = some (.int k)) : Opens enc P w base spare held t (dI k) := fun h => by
  obtain ⟨n, rfl, rfl, hw⟩ := DataW.trod_int ht h
  exact ⟨n, rfl, wf_range hw⟩
theorem opens_S {α : Type} [Inhabited α] {t e : TypeId} {sz : Nat} {d : Dec α} (ht : P.underlying t = some (.slice e)) (hs : P.cellsOf e = sz) (hd : Opens enc P w base spare held e d) : Opens enc P w base spare held t (dS sz d) := fun {fuel cs x} h => by
  rcases DataW.trod_slice ht h with ⟨rfl, rfl⟩ | ⟨a, len, cap, elems, rest, n, rfl, rfl, rfl, hb, hl, hm, hlen, hel, hsp, hns⟩
  · exact ⟨[], none, 0, rfl, Nat.le_refl _, RowR.nil ..⟩
  · subst hs
    have key : ∀ i, i < len → ∃ cs x, cs.length = P.cellsOf e ∧ (∀ j u, cs[j]? = some u → w.cell? (a.add (i * P.cellsOf e + j)) = some u) ∧ d w cs x := fun i hi => by
      have h1 := hel i hi
      rw [List.getElem?_eq_getElem (by omega)] at h1
      obtain ⟨cs', hc, ht'⟩ := Option.bind_eq_some_iff.1 h1
      obtain ⟨_, hcl, hat⟩ := World.cells?_some hc
      obtain ⟨x, hx⟩ := hd ht'
      refine ⟨cs', x, hcl, fun j u hu => ?_, hx⟩
      rw [← add_add, hat j (by have := (List.getElem?_eq_some_iff.1 hu).1; omega), hu]
    have hpick : ∃ f : Nat → α, ∀ i, i < len → ∃ cs, cs.length = P.cellsOf e ∧ (∀ j u, cs[j]? = some u → w.cell? (a.add (i * P.cellsOf e + j)) = some u) ∧ d w cs (f i) := by
      classical
      refine ⟨fun i => if hi : i < len then (key i hi).choose_spec.choose else default, fun i hi => ⟨(key i hi).choose, ?_⟩⟩
      simp only [dif_pos hi]
      exact (key i hi).choose_spec.choose_spec
    obtain ⟨f, hf⟩ := hpick
    refine ⟨(List.range len).map f, some a, cap, by simp, by simpa using hl, by simp; simp only [maxLen] at hm; omega, fun i hi => ?_⟩
    simp only [List.length_map, List.length_range] at hi
    obtain ⟨cs, h1, h2, h3⟩ := hf i hi
    refine ⟨a, cs, rfl, h1, h2, ?_⟩
    have : ((List.range len).map f)[i]! = f i := by simp [List.getElem!_eq_getElem?_getD, hi]
    rw [this]
    exact h3
/-- A struct: its fields lie one behind the other. -/
theorem fields_of {t : TypeId} {fs : Array Field} {fuel : Nat} {cs : List Value} {x : DataW H × List MemPlace} (ht : P.underlying t = some (.struct fs)) (h : DataW.trod enc P w base spare held fuel t cs = some x) :
    cs.length = P.cellsOf t ∧ ∃ n, ∀ (i : Nat) (f : Field), fs[i]? = some f → ∃ y, DataW.trod enc P w base spare held n f.type ((cs.drop f.offset).take (P.cellsOf f.type)) = some y := by
  obtain ⟨xs, n, _, _, hc, hl, hf⟩ := DataW.trod_struct ht h
  refine ⟨hc, n, fun i f hi => ?_⟩
  have hlt : i < xs.length := by rw [hl]; exact (Array.getElem?_eq_some_iff.1 hi).1
  exact ⟨xs[i], by rw [hf i f hi, List.getElem?_eq_getElem hlt]⟩
theorem trod_of_Trod {t : TypeId} {v : Value} {d : DataW H} {ps : List MemPlace} {α : Type} {D : Dec α} (h : DataW.Trod enc P w base spare held t v d ps) (ho : Opens enc P w base spare held t D) : ∃ a, D w v.cells.toList a := by
  obtain ⟨fuel, hf⟩ := h
  exact ho hf
end
end Go.Proofs.Ytjggjhgbobmkhaa

/- Systems, drafts: their kinds, how they are opened; the last step of every law's row. -/
namespace Go.Proofs.Ytjggjhgbobmkhaa
open Go.RowKit Go.ChangeShapes Go.WideShapes Go.ChangeAt
set_option linter.unusedVariables false
set_option linter.unusedSimpArgs false

structure Cell where
  fn : Bool
  v : Int
  args : List Int
deriving Inhabited
structure Con where
  k : Int
  a : Int
  b : Int
  args : List Int
deriving Inhabited
structure Sys where
  vars : Int
  cells : List Cell
  cons : List Con
deriving Inhabited
structure AAct where
  k : Int
  a : Int
  b : Int
  c : Int
deriving Inhabited
structure Draft where
  vars : Int
  cells : Int
  acts : List AAct
deriving Inhabited

abbrev RI := RowR 1 (dI .i64)
def dInts : Dec (List Int) := dS 1 (dI .i64)
def dCell : Dec Cell := fun w cs x => ∃ A c, cs = [.bool x.fn, .int .i64 x.v, .slice A x.args.length c] ∧ x.args.length ≤ c ∧ RI w A x.args ∧ IntKind.i64.min ≤ x.v ∧ x.v ≤ IntKind.i64.max
def dCon : Dec Con := fun w cs x => ∃ A c, cs = [.int .u8 x.k, .int .i64 x.a, .int .i64 x.b, .slice A x.args.length c] ∧ x.args.length ≤ c ∧ RI w A x.args ∧
  (IntKind.u8.min ≤ x.k ∧ x.k ≤ IntKind.u8.max) ∧ (IntKind.i64.min ≤ x.a ∧ x.a ≤ IntKind.i64.max) ∧ IntKind.i64.min ≤ x.b ∧ x.b ≤ IntKind.i64.max
abbrev RCells := RowR 3 dCell
abbrev RCons := RowR 4 dCon
def dAct : Dec AAct := fun w cs x => cs = [.int .u8 x.k, .int .u8 x.a, .int .u8 x.b, .int .u8 x.c] ∧ (0 ≤ x.k ∧ x.k ≤ 255) ∧ (0 ≤ x.a ∧ x.a ≤ 255) ∧ (0 ≤ x.b ∧ x.b ≤ 255) ∧ 0 ≤ x.c ∧ x.c ≤ 255
abbrev RActs := RowR 4 dAct
def dDraft : Dec Draft := fun w cs x => ∃ A c, cs = [.int .u8 x.vars, .int .u8 x.cells, .slice A x.acts.length c] ∧ RActs w A x.acts ∧ (0 ≤ x.vars ∧ x.vars ≤ 255) ∧ 0 ≤ x.cells ∧ x.cells ≤ 255
abbrev RRows := RowR 1 dInts

theorem stays_Ints : Stays dInts := stays_S (stays_I _)
theorem stays_Cell : Stays dCell := ⟨fun _ _ _ _ hb ⟨A, c, e, l, h, r⟩ => ⟨A, c, e, l, h.stays (stays_I _) hb, r⟩⟩
theorem stays_Con : Stays dCon := ⟨fun _ _ _ _ hb ⟨A, c, e, l, h, r⟩ => ⟨A, c, e, l, h.stays (stays_I _) hb, r⟩⟩
theorem stays_Act : Stays dAct := ⟨fun _ _ _ _ _ h => h⟩
/-! ### an element -/
/-! ### opening -/
section
variable {H : Type} {enc : TypeId × Value → H} {w : World} {base : Nat} {spare : Nat → Bool} {held : Bool}
theorem three {l : List Value} (h : l.length = 3) : ∃ a b c, l = [a, b, c] := match l, h with | [a, b, c], _ => ⟨a, b, c, rfl⟩
theorem four {l : List Value} (h : l.length = 4) : ∃ a b c d, l = [a, b, c, d] := match l, h with | [a, b, c, d], _ => ⟨a, b, c, d, rfl⟩
theorem cellsU8 : Try.prog.cellsOf 5 = 1 := by kernel_rfl
theorem cellsLA : Try.prog.cellsOf 22 = 1 := by kernel_rfl
theorem cellsAct : Try.prog.cellsOf 66 = 4 := by kernel_rfl
theorem cellsDraft : Try.prog.cellsOf 24 = 3 := by kernel_rfl
theorem opens_Act : Opens enc Try.prog w base spare held 66 dAct := fun h => by
  obtain ⟨hl, n, hf⟩ := fields_of Try.underlying66 h
  rw [cellsAct] at hl
  obtain ⟨c0, c1, c2, c3, rfl⟩ := four hl
  obtain ⟨y0, e0⟩ := hf 0 _ rfl
  obtain ⟨y1, e1⟩ := hf 1 _ rfl
  obtain ⟨y2, e2⟩ := hf 2 _ rfl
  obtain ⟨y3, e3⟩ := hf 3 _ rfl
  simp [cellsU8] at e0 e1 e2 e3
  obtain ⟨x0, h0, r0⟩ := opens_I Try.underlying5 e0
  obtain ⟨x1, h1, r1⟩ := opens_I Try.underlying5 e1
  obtain ⟨x2, h2, r2⟩ := opens_I Try.underlying5 e2
  obtain ⟨x3, h3, r3⟩ := opens_I Try.underlying5 e3
  simp at h0 h1 h2 h3
  exact ⟨⟨x0, x1, x2, x3⟩, by simp [h0, h1, h2, h3], r0, r1, r2, r3⟩
theorem opens_Draft : Opens enc Try.prog w base spare held 24 dDraft := fun h => by
  obtain ⟨hl, n, hf⟩ := fields_of Try.underlying24 h
  rw [cellsDraft] at hl
  obtain ⟨c0, c1, c2, rfl⟩ := three hl
  obtain ⟨y0, e0⟩ := hf 0 _ rfl
  obtain ⟨y1, e1⟩ := hf 1 _ rfl
  obtain ⟨y2, e2⟩ := hf 2 _ rfl
  simp [cellsU8, cellsLA] at e0 e1 e2
  obtain ⟨x0, h0, r0⟩ := opens_I Try.underlying5 e0
  obtain ⟨x1, h1, r1⟩ := opens_I Try.underlying5 e1
  obtain ⟨x2, A, c, h2, r2⟩ := opens_S Try.underlying22 cellsAct opens_Act e2
  simp at h0 h1 h2
  exact ⟨⟨x0, x1, x2⟩, A, c, by simp [h0, h1, h2], r2.2, r0, r1⟩
end

/-! ### the row's last step -/
section
variable {H : Type} {enc : TypeId × Value → H} {P : Program}
theorem trodAll_below (hl : laidOutB P = true) {W W' : World} (hb : Below W.heap.size W W') (sp : Nat → Bool) : ∀ {ts : List TypeId} {vs : List Value} {ds : List (DataW H)} {ps : List MemPlace},
    (ts.all fun t => P.readableRec t && decide (t < P.types.size)) = true → DataW.TrodAll enc P W 0 (fun _ => true) true ts vs ds ps → (∀ x ∈ ps, x.block < W.heap.size) → (∀ x ∈ ps, sp x.block = true) → DataW.TrodAll enc P W' 0 sp true ts vs ds ps := by
  intro ts
  induction ts with
  | nil =>
    intro vs ds ps _ h _ _
    cases vs <;> cases ds <;> simp_all [DataW.TrodAll]
  | cons t ts ih =>
    intro vs ds ps hr h hlt hsp
    simp only [List.all_cons, Bool.and_eq_true, decide_eq_true_eq] at hr
    obtain ⟨v, vs', d, ds', p, q, rfl, rfl, rfl, h0, h1⟩ := trodAll_cons h
    refine ⟨p, q, WideElems.Trod_stays hl hr.1.1 hr.1.2 h0 (fun x hx => hb.same (hlt x (by simp [hx]))) (fun x hx => hsp x (by simp [hx])), ih (by simpa using hr.2) h1 (fun x hx => hlt x (by simp [hx])) (fun x hx => hsp x (by simp [hx])), rfl⟩
theorem post_of_below {f : Func} {s : ChangeSpec} {apart fresh handsOn again : Bool} {W W' : World} {args : Array Value} {v : Value} {ds gs : List (DataW H)} {before pa pv : List MemPlace}
    (hW : DataW.Whole enc P f.params.toList s.vars apart W args.toList ds gs before)
    (hres : ∀ (b : Nat) (sp : Nat → Bool) (hd : Bool), DataW.TrodAll enc P W' b sp hd f.resultTypes.toList (v.resultList f.resultTypes.size) (s.fn H (ds ++ gs)).results [])
    (hargs : ∀ sp : Nat → Bool, (∀ p ∈ before, sp p.block = true) → DataW.TrodAll enc P W' 0 sp true f.params.toList args.toList (s.fn H (ds ++ gs)).args pa)
    (hvars : ∀ sp : Nat → Bool, (∀ p ∈ before, sp p.block = true) → DataW.TrodVars enc P W' sp s.vars (s.fn H (ds ++ gs)).vars pv)
    (hps : before = pa ++ pv) (hb : Below W.heap.size W W')
    (hok : ∀ (j : Nat) (t : TypeId) (r : Value), f.resultTypes[j]? = some t → (v.resultList f.resultTypes.size)[j]? = some r → Value.okWide P W' .any 0 t r) :
    s.post enc P f apart fresh handsOn again W args v W' := by
  have hlt : ∀ p ∈ before, p.block < W.heap.size := fun p hp => hW.lt p hp
  have hold : ∀ p ∈ before, (fun b => decide (b < W.heap.size)) p.block = true := fun p hp => by simpa using hlt p hp
  refine ⟨ds, gs, before, [], pa, pv, hW, hres _ _ _, hargs _ hold, hvars _ hold, World.keptBut_mono (fun p hp => ⟨hp, ?_⟩) (hb.frame (· ∈ before)), fun _ => ?_⟩
  · rw [hps, List.mem_append] at hp
    exact Or.inr hp
  · obtain ⟨_, _, _, _, _, hz, hn⟩ := hW
    refine ⟨hok, _, _, ([] ++ pa) ++ pv, ⟨[] ++ pa, pv, trodAll_append (hargs _ (fun _ _ => rfl)) (hres _ _ _), hvars _ (fun _ _ => rfl), rfl, ?_, ?_⟩, ?_⟩
    · intro b off hp
      have hin : MemPlace.cell b off ∈ before := by rw [hps]; simpa using hp
      rw [hb.frozen (hlt _ hin)]
      exact hz b off hin
    · intro ha
      have := hn ha
      rw [hps] at this
      simpa using this
    · intro p hp _
      rw [hps]
      simpa using hp
end
theorem own : ownKnob Try.prog.godebug = none := by kernel_rfl
theorem laidOut : laidOutB Try.prog = true := by kernel_rfl
end Go.Proofs.Ytjggjhgbobmkhaa

/- A calculus of one's own over the walk's: frames as functions of the slots, operations step by step, each by one lemma. -/
namespace Go.Proofs.Ytjggjhgbobmkhaa
open Go.RowKit
set_option linter.unusedVariables false
set_option linter.unusedSimpArgs false

theorem nbeq_ne {a b : Nat} (h : a ≠ b) : Nat.beq a b = false := by
  rw [← Bool.not_eq_true]
  intro h'
  exact h (Nat.eq_of_beq_eq_true h')
theorem nbeq_self (a : Nat) : Nat.beq a a = true := Nat.beq_refl a
theorem nblt {a b : Nat} (h : Nat.blt a b = true) : a < b := Nat.le_of_ble_eq_true h
abbrev Fm := Nat → Value
def upd (F : Fm) (d : Nat) (v : Value) : Fm := fun t => bif Nat.beq t d then v else F t
def updO (F : Fm) : Option Nat → Value → Fm
  | some d, v => upd F d v
  | none, _ => F
structure Fr (a : Act) (n : Nat) (F : Fm) : Prop where
  size : a.tmps.size = n
  defers : a.defers = []
  get : ∀ t, a.tmps.getD t undef = F t
def ev (F : Fm) : Operand → Value
  | .tmp t => F t
  | .const v => v
  | .global g => .pointer (some ⟨g, 0, none⟩)
  | .func f => .func (.func f) #[] #[]
theorem Fr.eval {a : Act} {n : Nat} {F : Fm} (h : Fr a n F) : a.eval = ev F := funext fun x => by
  cases x <;> simp only [Act.eval, ev]
  exact h.get _
def dstOk (n : Nat) : Option Nat → Bool
  | none => true
  | some d => Nat.blt d n
theorem Fr.put {a : Act} {n : Nat} {F : Fm} (h : Fr a n F) {d : Option Nat} (hd : dstOk n d = true) (v : Value) : Fr (a.put d v) n (updO F d v) := by
  cases d with
  | none => exact h
  | some d =>
    have hd' : d < a.tmps.size := by rw [h.size]; exact nblt hd
    refine ⟨by simp [Act.put, h.size], h.defers, fun t => ?_⟩
    simp only [Act.put, updO, upd]
    by_cases e : t = d
    · subst e
      rw [nbeq_self]
      simp [Array.getD, hd']
    · have : Nat.beq t d = false := nbeq_ne e
      simp only [this, cond_false]
      rw [← h.get t]
      simp [Array.getD_eq_getD_getElem?, Array.getElem?_setIfInBounds, Ne.symm e]
theorem upd_self (F : Fm) (t : Nat) (v : Value) (h : F t = v) : upd F t v = F := funext fun s => by
  unfold upd
  by_cases e : s = t
  · subst e; rw [nbeq_self]; exact h.symm
  · rw [nbeq_ne e]; rfl

/-! ### types, as a table -/
structure TI where
  desc : TypeDesc
  size : Nat
  bytes : Nat
  zero : Value
/-- A tree of types, by their numbers. -/
inductive TT where
  | leaf
  | node (l : TT) (t : Nat) (i : TI) (r : TT)
def lookT : TT → Nat → Option TI
  | .leaf, _ => none
  | .node l t i r, u => bif Nat.beq u t then some i else bif Nat.blt u t then lookT l u else lookT r u
def EntryOk (P : Program) (t : Nat) (i : TI) : Prop := P.underlying t = some i.desc ∧ (P.info? t).map (fun j => (j.zero, j.size, j.bytes)) = some (some i.zero, i.size, i.bytes)
structure TabOk (P : Program) (T : Nat → Option TI) : Prop where
  ok : ∀ t i, T t = some i → EntryOk P t i
def TreeOk (P : Program) : TT → Prop
  | .leaf => True
  | .node l t i r => TreeOk P l ∧ EntryOk P t i ∧ TreeOk P r
theorem lookT_ok {P : Program} : ∀ {l : TT}, TreeOk P l → ∀ t i, lookT l t = some i → EntryOk P t i
  | .leaf, _, t, i, h => by simp [lookT] at h
  | .node l u j r, ⟨h1, h2, h3⟩, t, i, h => by
    simp only [lookT] at h
    by_cases e : t = u
    · subst e
      rw [nbeq_self] at h
      simp only [cond_true, Option.some.injEq] at h
      subst h
      exact h2
    · rw [nbeq_ne e] at h
      simp only [cond_false] at h
      cases hb : Nat.blt t u
      · rw [hb] at h; exact lookT_ok h3 t i h
      · rw [hb] at h; exact lookT_ok h1 t i h
theorem tabOk_of {P : Program} {l : TT} (h : TreeOk P l) : TabOk P (lookT l) := ⟨lookT_ok h⟩

structure Post where
  n : Fm → World → Prop
  r : Fm → World → Prop
  x : Nat → Fm → World → Prop
def lift (n : Nat) (Q : Post) : Exit → Act → World → Prop
  | .normal, a, w => ∃ F, Fr a n F ∧ Q.n F w
  | .ret, a, w => ∃ F, Fr a n F ∧ Q.r F w
  | .exit i, a, w => ∃ F, Fr a n F ∧ Q.x i F w
  | _, _, _ => False
def wc (P : Program) (n : Nat) (c : Code) (Q : Post) (F : Fm) (w : World) : Prop := ∀ a, Fr a n F → c.wp P (lift n Q) a w
def wl (P : Program) (n : Nat) (ops : Array Oper) (rest : List Oper) (Q : Post) (F : Fm) (w : World) : Prop := ∀ a, Fr a n F → wpList P ops (lift n Q) rest a w
def Post.seq (next : Fm → World → Prop) (Q : Post) : Post := ⟨next, Q.r, Q.x⟩
def Post.blk (id : Nat) (Q : Post) : Post := ⟨Q.n, Q.r, fun i F w => bif Nat.beq i id then Q.n F w else Q.x i F w⟩

section rules
variable {P : Program} {n : Nat} {Q : Post} {F : Fm} {w : World}
theorem lift_mono {Q' : Post} (hn : ∀ F w, Q.n F w → Q'.n F w) (hr : ∀ F w, Q.r F w → Q'.r F w) (hx : ∀ i F w, Q.x i F w → Q'.x i F w) : ∀ e a w, lift n Q e a w → lift n Q' e a w := by
  intro e a w h
  cases e <;> simp only [lift] at h ⊢
  · obtain ⟨F, h1, h2⟩ := h; exact ⟨F, h1, hn _ _ h2⟩
  · obtain ⟨F, h1, h2⟩ := h; exact ⟨F, h1, hx _ _ _ h2⟩
  · obtain ⟨F, h1, h2⟩ := h; exact ⟨F, h1, hr _ _ h2⟩
theorem wc_mono {c : Code} {Q' : Post} (h : wc P n c Q F w) (hn : ∀ F w, Q.n F w → Q'.n F w) (hr : ∀ F w, Q.r F w → Q'.r F w) (hx : ∀ i F w, Q.x i F w → Q'.x i F w) : wc P n c Q' F w :=
  fun a ha => wp_mono (h a ha) (lift_mono hn hr hx)
theorem wc_seq {x y : Code} (h : wc P n x (Q.seq (wc P n y Q)) F w) : wc P n (.seq x y) Q F w := fun a ha =>
  wp_seq (wp_mono (h a ha) (by
    intro e a w h
    cases e <;> simp only [lift, Post.seq] at h <;> simp only [Exit.then]
    · obtain ⟨F, h1, h2⟩ := h; exact h2 a h1
    · exact h
    · exact h))
theorem wc_skip (h : Q.n F w) : wc P n .skip Q F w := fun a ha => wp_skip ⟨F, ha, h⟩
theorem wc_ret (h : Q.r F w) : wc P n .ret Q F w := fun a ha => wp_ret ⟨F, ha, h⟩
theorem wc_exit {i : Nat} (h : Q.x i F w) : wc P n (.exit i) Q F w := fun a ha => wp_exit ⟨F, ha, h⟩
theorem wc_label {i : Nat} (h : Q.n F w) : wc P n (.label i) Q F w := fun a ha => wp_label ⟨F, ha, h⟩
theorem wc_block {id : Nat} {c : Code} (h : wc P n c (Q.blk id) F w) : wc P n (.block id c) Q F w := fun a ha =>
  wp_block (wp_mono (h a ha) (by
    intro e a w h
    cases e <;> simp only [lift, Post.blk] at h <;> simp only [Exit.inBlock]
    · exact h
    · rename_i i
      obtain ⟨F, h1, h2⟩ := h
      by_cases e : i = id
      · subst e; rw [nbeq_self] at h2; simp only [if_true]; exact ⟨F, h1, h2⟩
      · rw [nbeq_ne e] at h2; simp only [e, if_false]; exact ⟨F, h1, h2⟩
    · exact h))
theorem wc_if {c : Operand} {x y : Code} {b : Bool} (hc : ev F c = .bool b) (ht : b = true → wc P n x Q F w) (hf : b = false → wc P n y Q F w) : wc P n (.cond c x y) Q F w := fun a ha => by
  have hc' : a.eval c = .bool b := by rw [ha.eval]; exact hc
  exact wp_cond_split hc' (fun h => ht h a ha) (fun h => hf h a ha)
theorem wc_ift {c : Operand} {x y : Code} (hc : ev F c = .bool true) (ht : wc P n x Q F w) : wc P n (.cond c x y) Q F w := wc_if hc (fun _ => ht) (fun h => by cases h)
theorem wc_iff {c : Operand} {x y : Code} (hc : ev F c = .bool false) (hf : wc P n y Q F w) : wc P n (.cond c x y) Q F w := wc_if hc (fun h => by cases h) (fun _ => hf)

/-! ### loops -/
def holds (F : Fm) : List (Nat × Value) → Prop
  | [] => True
  | (t, v) :: l => F t = v ∧ holds F l
def upds (F : Fm) : List (Nat × Value) → Fm
  | [] => F
  | (t, v) :: l => upd (upds F l) t v
theorem upds_of_holds {F : Fm} : ∀ {l : List (Nat × Value)}, holds F l → upds F l = F
  | [], _ => rfl
  | (t, v) :: l, ⟨h, hl⟩ => by
    simp only [upds]
    rw [upds_of_holds hl]
    exact upd_self F t v h
theorem wc_loop {X : Type} (S : X → List (Nat × Value)) (R : X → World → Prop) (m : X → Nat) (x0 : X) {body : Code} (hS : holds F (S x0)) (hR : R x0 w)
    (round : ∀ x G w, R x w → wc P n body (Q.seq fun F' w' => ∃ x', holds F' (S x') ∧ R x' w' ∧ m x' < m x) (upds G (S x)) w) : wc P n (.loop body) Q F w := by
  intro a ha
  classical
  let I : Act → World → Nat → Prop := fun a w d => ∃ x F, Fr a n F ∧ holds F (S x) ∧ R x w ∧ m x = d
  let μ : Act → World → Nat := fun a w => if h : ∃ d, I a w d then h.choose else 0
  have least : ∀ a w, (∃ d, I a w d) → ∃ d, I a w d ∧ ∀ d', I a w d' → d ≤ d' := by
    intro a w ⟨d, hd⟩
    induction d using Nat.strongRecOn with
    | _ d ih =>
      by_cases h : ∃ d', I a w d' ∧ d' < d
      · obtain ⟨d', h1, h2⟩ := h
        exact ih d' h2 h1
      · exact ⟨d, hd, fun d' h1 => Nat.le_of_not_lt fun h2 => h ⟨d', h1, h2⟩⟩
  let ν : Act → World → Nat := fun a w => if h : ∃ d, I a w d then (least a w h).choose else 0
  have hν : ∀ a w (h : ∃ d, I a w d), I a w (ν a w) ∧ ∀ d', I a w d' → ν a w ≤ d' := by
    intro a w h
    have : ν a w = (least a w h).choose := by simp only [ν]; rw [dif_pos h]
    rw [this]
    exact (least a w h).choose_spec
  refine wp_loop (fun a w => ∃ d, I a w d) ν ⟨_, x0, F, ha, hS, hR, rfl⟩ ?_
  intro a w hI
  obtain ⟨⟨x, F, hF, hS, hR, hm⟩, _⟩ := hν a w hI
  have hr := round x F w hR
  rw [upds_of_holds hS] at hr
  refine wp_mono (hr a hF) ?_
  intro e a' w' h
  cases e <;> simp only [lift] at h <;> simp only [Exit.then]
  · obtain ⟨F', h1, x', h2, h3, h4⟩ := h
    have hI' : ∃ d, I a' w' d := ⟨_, x', F', h1, h2, h3, rfl⟩
    exact ⟨hI', Nat.lt_of_le_of_lt ((hν a' w' hI').2 _ ⟨x', F', h1, h2, h3, rfl⟩) (by omega)⟩
  · exact h
  · exact h
/-! ### entry and end -/
def initF : Nat → List Value → Fm
  | _, [] => fun _ => undef
  | k, v :: l => upd (initF (k + 1) l) k v
theorem initF_get : ∀ (l : List Value) (k t : Nat), initF k l t = if t < k then undef else l.getD (t - k) undef
  | [], k, t => by simp [initF]
  | v :: l, k, t => by
    simp only [initF, upd]
    by_cases e : t = k
    · subst e; rw [nbeq_self]; simp
    · have : Nat.beq t k = false := nbeq_ne e
      simp only [this, cond_false]
      rw [initF_get l (k + 1) t]
      by_cases h : t < k
      · rw [if_pos h, if_pos (by omega)]
      · rw [if_neg h, if_neg (by omega)]
        obtain ⟨j, rfl⟩ : ∃ j, t = k + 1 + j := ⟨t - (k + 1), by omega⟩
        simp [show k + 1 + j - k = j + 1 by omega, show k + 1 + j - (k + 1) = j by omega]
def retQ (P : Program) (fn : Func) (R : Ending → World → Prop) (F : Fm) (w : World) : Prop := ∀ tmps : Array Value, (∀ t, tmps.getD t undef = F t) → ∃ v, (results fn tmps).run P w = .ok v w ∧ R (.returned v) w
theorem enterW {f : FuncId} {fn : Func} {c : Code} {args : List Value} {R : Ending → World → Prop} (m : Nat) (hf : P.funcs[f]? = some fn) (hb : fn.body = some c) (hm : fn.ntmps = m) (hn : Nat.ble args.length m = true)
    (h : wc P m c ⟨retQ P fn R, retQ P fn R, fun _ _ _ => False⟩ (initF 0 args) w) : Calls P f args.toArray w R := by
  subst hm
  refine calls_of_wp hf hb (wp_mono (h _ ⟨?_, rfl, fun t => ?_⟩) ?_)
  · have : args.length ≤ fn.ntmps := by simpa using hn
    simp; omega
  · rw [initF_get]
    simp only [Nat.not_lt_zero, if_false, Nat.sub_zero]
    rw [Array.getD_eq_getD_getElem?, Array.getElem?_append]
    by_cases ht : t < args.length
    · simp [ht, List.getD_eq_getElem?_getD]
    · simp [ht, List.getD_eq_getElem?_getD, Array.getElem?_replicate, List.getElem?_eq_none (Nat.le_of_not_lt ht)]
      split <;> rfl
  · intro e a w h
    cases e <;> simp only [lift] at h <;> simp only [bodyPost]
    · obtain ⟨F, h1, h2⟩ := h; exact ⟨h1.defers, h2 _ h1.get⟩
    · obtain ⟨F, h1, h2⟩ := h; exact h2
    · obtain ⟨F, h1, h2⟩ := h; exact ⟨h1.defers, h2 _ h1.get⟩
theorem ret1 {fn : Func} {R : Ending → World → Prop} {t : Tmp} (hr : fn.results = #[.tmp t]) {v : Value} (hv : F t = v) (h : R (.returned v) w) : retQ P fn R F w := fun tmps ht => by
  subst hv
  exact ⟨_, results_tmp hr tmps P w, by rw [ht]; exact h⟩

/-! ### operations -/
variable {ops : Array Oper} {rest : List Oper} {o : Oper}
theorem wc_reg {id : Nat} {l : List Oper} (h : wl P n l.toArray l Q F w) : wc P n (.region id l.toArray false) Q F w := fun a ha => wp_region_lit (h a ha)
theorem wl_nil (h : Q.n F w) : wl P n ops [] Q F w := fun a ha => wpList_nil ⟨F, ha, h⟩
theorem dst_some {d : Nat} (hd : o.dst = some d) (hn : Nat.blt d n = true) : dstOk n o.dst = true := by rw [hd]; exact hn
theorem wl_val {v : Value} {w1 : World} {d : Nat} (hg : o.guard = none) (hd : o.dst = some d) (hn : Nat.blt d n = true) (hrun : (execOp (ev F) o).run P w = .ok (.value v) w1) (k : wl P n ops rest Q (upd F d v) w1) : wl P n ops (o :: rest) Q F w :=
  fun a ha => wpList_plain hg fun K hK => by
    unfold Oper.wp
    rw [ha.eval, hrun]
    refine hK _ _ (k _ ?_)
    have := ha.put (dst_some hd hn) v
    rw [hd] at this ⊢
    exact this
theorem wl_skp {w1 : World} (hg : o.guard = none) (hd : o.dst = none) (hrun : (execOp (ev F) o).run P w = .ok .skip w1) (k : wl P n ops rest Q F w1) : wl P n ops (o :: rest) Q F w :=
  fun a ha => wpList_plain hg fun K hK => by
    unfold Oper.wp
    rw [ha.eval, hrun]
    refine hK _ _ (k _ ?_)
    rw [hd]
    exact ha
theorem wl_ent {f : FuncId} {args : Array Value} {R : Ending → World → Prop} {d : Nat} (hg : o.guard = none) (hd : o.dst = some d) (hn : Nat.blt d n = true) (hrun : (execOp (ev F) o).run P w = .ok (.enter f args) w) (hc : Calls P f args w R)
    (k : ∀ e w1, R e w1 → ∃ v, e = .returned v ∧ wl P n ops rest Q (upd F d v) w1) : wl P n ops (o :: rest) Q F w :=
  fun a ha => wpList_plain hg fun K hK => by
    unfold Oper.wp
    rw [ha.eval, hrun]
    refine hc.mono ?_
    intro e w1 hR
    obtain ⟨v, rfl, hv⟩ := k e w1 hR
    refine hK _ _ (hv _ ?_)
    have := ha.put (dst_some hd hn) v
    rw [hd] at this ⊢
    exact this
/-- A guarded operation. -/
def ung (o : Oper) : Oper := { o with guard := none }
theorem wl_gT {j : Nat} {b : Bool} {oj : Oper} {t : Tmp} (hg : o.guard = some (j, b)) (hj : ops[j]? = some oj) (ht : oj.dst = some t) (hb : F t = .bool b) (hn : Nat.blt t n = true) (k : wl P n ops (ung o :: rest) Q F w) : wl P n ops (o :: rest) Q F w := fun a ha => by
  have hlt : t < a.tmps.size := by rw [ha.size]; exact nblt hn
  have h1 := ha.get t
  rw [hb, Array.getD_eq_getD_getElem?, Array.getElem?_eq_getElem hlt] at h1
  have hw : Region.wanted o (yielded ops a.tmps) = true := by
    simp only [Region.wanted, hg, yielded, hj, Option.bind_some, ht, Array.getElem?_eq_getElem hlt]
    simp at h1
    simp [h1]
  have hk := k a ha
  unfold wpList at hk ⊢
  rw [if_pos hw]
  rw [if_pos (by simp [Region.wanted, ung])] at hk
  exact hk
theorem wl_gF {j : Nat} {b c : Bool} {oj : Oper} {t : Tmp} (hg : o.guard = some (j, b)) (hj : ops[j]? = some oj) (ht : oj.dst = some t) (hb : F t = .bool c) (hne : (c == b) = false) (hn : Nat.blt t n = true) {d : Nat} (hd : o.dst = some d) (hdn : Nat.blt d n = true) (k : wl P n ops rest Q (upd F d undef) w) : wl P n ops (o :: rest) Q F w := fun a ha => by
  have hlt : t < a.tmps.size := by rw [ha.size]; exact nblt hn
  have h1 := ha.get t
  rw [hb, Array.getD_eq_getD_getElem?, Array.getElem?_eq_getElem hlt] at h1
  have hw : Region.wanted o (yielded ops a.tmps) = false := by
    simp only [Region.wanted, hg, yielded, hj, Option.bind_some, ht, Array.getElem?_eq_getElem hlt]
    simp at h1
    simp [h1]
    simpa using hne
  have hk := k _ (by have := ha.put (dst_some hd hdn) undef; rw [hd] at this; exact this)
  rw [← hd] at hk
  unfold wpList
  rw [hw]
  simpa using hk
/-- A guard whose guard wasn't met either. -/
theorem wl_gU {j : Nat} {b : Bool} {oj : Oper} {t : Tmp} (hg : o.guard = some (j, b)) (hj : ops[j]? = some oj) (ht : oj.dst = some t) (hb : F t = undef) (hn : Nat.blt t n = true) {d : Nat} (hd : o.dst = some d) (hdn : Nat.blt d n = true) (k : wl P n ops rest Q (upd F d undef) w) : wl P n ops (o :: rest) Q F w := fun a ha => by
  have hlt : t < a.tmps.size := by rw [ha.size]; exact nblt hn
  have h1 := ha.get t
  rw [hb, Array.getD_eq_getD_getElem?, Array.getElem?_eq_getElem hlt] at h1
  have hw : Region.wanted o (yielded ops a.tmps) = false := by
    simp only [Region.wanted, hg, yielded, hj, Option.bind_some, ht, Array.getElem?_eq_getElem hlt]
    simp at h1
    simp [h1, undef]
  have hk := k _ (by have := ha.put (dst_some hd hdn) undef; rw [hd] at this; exact this)
  rw [← hd] at hk
  unfold wpList
  rw [hw]
  simpa using hk
end rules
attribute [irreducible] wc wl retQ
end Go.Proofs.Ytjggjhgbobmkhaa
