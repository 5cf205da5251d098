/- Several texts of one claim in one file: KT16 EX. -/
import Derived.Test.YtomldckplkecbaaY5
/- Knots: a search's plain law. -/
namespace Go.Proofs.Ytomldckplkecbaa
set_option linter.unusedVariables false
set_option linter.unusedSimpArgs false
/-- To come to a node by edges. -/
inductive Rch (E : Nat → Nat → Prop) : Nat → Nat → Prop
  | refl (v : Nat) : Rch E v v
  | step {v w u : Nat} : E v w → Rch E w u → Rch E v u
theorem Rch.trans {E : Nat → Nat → Prop} {a b c : Nat} (h : Rch E a b) (k : Rch E b c) : Rch E a c := by
  induction h with
  | refl => exact k
  | step e _ ih => exact .step e (ih k)
theorem Rch.one {E : Nat → Nat → Prop} {a b : Nat} (h : E a b) : Rch E a b := .step h (.refl b)
theorem Rch.closed {E : Nat → Nat → Prop} {P : Nat → Prop} (hP : ∀ v w, P v → E v w → P w) {a b : Nat} (h : Rch E a b) : P a → P b := by
  induction h with
  | refl => exact id
  | step e _ ih => exact fun p => ih (hP _ _ p e)
/-- The k-th thing of a node's row is a node. -/
def EdK (g : List (List Int)) (v k w : Nat) : Prop := v < g.length ∧ w < g.length ∧ k < (g[v]!).length ∧ (g[v]!)[k]! = (w : Int)
def Ed (g : List (List Int)) (v w : Nat) : Prop := ∃ k, EdK g v k w
abbrev Rg (g : List (List Int)) := Rch (Ed g)
/-- The search's state. -/
structure TS where
  idx : Nat → Nat
  low : Nat → Nat
  on : Nat → Bool
  stk : List Nat
  of : Nat → Nat
  cnt : Nat
  kn : List (List Nat)
  path : List (Nat × Nat)
def TS.pn (s : TS) : List Nat := s.path.map (·.1)
/-- Which edges have been looked at. -/
def TS.Pr (s : TS) (x k : Nat) : Prop := x ∉ s.pn ∨ ∃ nx, (x, nx) ∈ s.path ∧ k < nx
def TS.Dn (s : TS) (v : Nat) : Prop := 0 < s.idx v ∧ v ∉ s.stk
structure TInv (g : List (List Int)) (s : TS) : Prop where
  le : ∀ v, s.idx v ≤ s.cnt
  nod : ∀ v, 0 < s.idx v → v < g.length
  stk : ∀ x ∈ s.stk, 0 < s.idx x
  on : ∀ x, s.on x = true ↔ x ∈ s.stk
  ord : s.stk.Pairwise fun a b => s.idx a < s.idx b
  psub : s.pn.Sublist s.stk
  bot : ∀ x ∈ s.stk, ∃ p ∈ s.pn, s.idx p ≤ s.idx x
  -- what is done
  dk : ∀ v, s.Dn v → s.of v < s.kn.length ∧ v ∈ s.kn[s.of v]!
  kd : ∀ k, k < s.kn.length → s.kn[k]! ≠ [] ∧ (s.kn[k]!).Pairwise (· < ·) ∧ ∀ v ∈ s.kn[k]!, s.Dn v ∧ s.of v = k
  cl : ∀ v w, s.Dn v → Ed g v w → s.Dn w ∧ s.of w ≤ s.of v
  scc : ∀ v u, s.Dn v → s.Dn u → (s.of v = s.of u ↔ Rg g v u ∧ Rg g u v)
  -- what stands on the stack
  pr : ∀ x ∈ s.stk, ∀ k w, s.Pr x k → EdK g x k w → 0 < s.idx w
  j1 : ∀ x ∈ s.stk, x ∉ s.pn → ∃ y ∈ s.stk, s.idx y < s.idx x ∧ Rg g x y
  j2 : ∀ p ∈ s.pn, ∀ x ∈ s.stk, s.idx p ≤ s.idx x → Rg g p x
  j3 : ∀ p ∈ s.pn, s.low p ≤ s.idx p ∧ ∃ y ∈ s.stk, s.idx y = s.low p ∧ Rg g p y
  j4 : ∀ A v nx B, s.path = A ++ (v, nx) :: B → ∀ x ∈ s.stk, s.idx v ≤ s.idx x → (∀ b ∈ B, s.idx x < s.idx b.1) → ∀ k w, s.Pr x k → EdK g x k w → w ∈ s.stk → s.low v ≤ s.idx w
section
variable {g : List (List Int)} {s : TS}
theorem TInv.pstk (h : TInv g s) {v : Nat} (hv : v ∈ s.pn) : v ∈ s.stk := h.psub.subset hv
theorem TInv.inj (h : TInv g s) {a b : Nat} (ha : a ∈ s.stk) (hb : b ∈ s.stk) (e : s.idx a = s.idx b) : a = b := by
  have key : ∀ l : List Nat, l.Pairwise (fun a b => s.idx a < s.idx b) → a ∈ l → b ∈ l → a = b := by
    intro l
    induction l with
    | nil => intro _ h; cases h
    | cons c r ih =>
      intro hp h1 h2
      rw [List.pairwise_cons] at hp
      rcases List.mem_cons.1 h1 with h3 | h3
      · rcases List.mem_cons.1 h2 with h4 | h4
        · rw [h3, h4]
        · have := hp.1 _ h4
          rw [h3] at e
          omega
      · rcases List.mem_cons.1 h2 with h4 | h4
        · have := hp.1 _ h3
          rw [h4] at e
          omega
        · exact ih hp.2 h3 h4
  exact key _ h.ord ha hb
theorem sub_pairwise {R : Nat → Nat → Prop} {a b : List Nat} (h : a.Sublist b) (hb : b.Pairwise R) : a.Pairwise R := hb.sublist h
/-- Before anything. -/
def TS.init : TS := ⟨fun _ => 0, fun _ => 0, fun _ => false, [], fun _ => 0, 0, [], []⟩
theorem TInv.init (g : List (List Int)) : TInv g TS.init where
  le := fun _ => Nat.le_refl _
  nod := fun _ h => absurd h (Nat.lt_irrefl 0)
  stk := fun _ h => by cases h
  on := fun _ => ⟨fun h => (by cases h), fun h => (by cases h)⟩
  ord := .nil
  psub := .slnil
  bot := fun _ h => by cases h
  dk := fun _ h => absurd h.1 (Nat.lt_irrefl 0)
  kd := fun _ h => absurd h (Nat.not_lt_zero _)
  cl := fun _ _ h => absurd h.1 (Nat.lt_irrefl 0)
  scc := fun _ _ h => absurd h.1 (Nat.lt_irrefl 0)
  pr := fun _ h => by cases h
  j1 := fun _ h => by cases h
  j2 := fun _ h => by cases h
  j3 := fun _ h => by cases h
  j4 := fun _ _ _ _ _ _ h => by cases h
def setF {α : Type} (f : Nat → α) (v : Nat) (x : α) : Nat → α := fun j => if j = v then x else f j
theorem setF_at {α : Type} (f : Nat → α) (v : Nat) (x : α) : setF f v x v = x := if_pos rfl
theorem setF_ne {α : Type} (f : Nat → α) {v j : Nat} (x : α) (h : j ≠ v) : setF f v x j = f j := if_neg h
/-- A node is come to: from nowhere, or by the edge that was looked at last. -/
def TS.enter (s : TS) (v : Nat) : TS := ⟨setF s.idx v (s.cnt + 1), setF s.low v (s.cnt + 1), setF s.on v true, s.stk ++ [v], s.of, s.cnt + 1, s.kn, s.path ++ [(v, 0)]⟩
theorem TS.enter_pn (s : TS) (v : Nat) : (s.enter v).pn = s.pn ++ [v] := by simp [TS.enter, TS.pn]
theorem TInv.enter (h : TInv g s) {v : Nat} (hv : v < g.length) (h0 : s.idx v = 0) (hp : ∀ p ∈ s.pn, Rg g p v) : TInv g (s.enter v) := by
  have hvs : v ∉ s.stk := fun hh => by have := h.stk v hh; omega
  have hvp : v ∉ s.pn := fun hh => hvs (h.pstk hh)
  have ne : ∀ x ∈ s.stk, x ≠ v := fun x hx e => hvs (e ▸ hx)
  have ix : ∀ x, x ≠ v → (s.enter v).idx x = s.idx x := fun x hx => setF_ne _ _ hx
  have iv : (s.enter v).idx v = s.cnt + 1 := setF_at ..
  have lx : ∀ x, x ≠ v → (s.enter v).low x = s.low x := fun x hx => setF_ne _ _ hx
  have lv : (s.enter v).low v = s.cnt + 1 := setF_at ..
  have ms : ∀ x, x ∈ (s.enter v).stk ↔ x ∈ s.stk ∨ x = v := fun x => by simp [TS.enter]
  have mp : ∀ x, x ∈ (s.enter v).pn ↔ x ∈ s.pn ∨ x = v := fun x => by rw [TS.enter_pn]; simp
  have pos : ∀ x, 0 < (s.enter v).idx x ↔ 0 < s.idx x ∨ x = v := fun x => by
    by_cases e : x = v
    · subst e; rw [iv]; simp
    · rw [ix x e]; simp [e]
  have dn : ∀ x, (s.enter v).Dn x ↔ s.Dn x := fun x => by
    unfold TS.Dn
    rw [pos, ms]
    constructor
    · rintro ⟨h1 | h1, h2⟩
      · exact ⟨h1, fun hh => h2 (.inl hh)⟩
      · exact absurd (.inr h1) h2
    · rintro ⟨h1, h2⟩
      exact ⟨.inl h1, fun hh => hh.elim h2 (fun e => by subst e; omega)⟩
  have prx : ∀ x k, x ≠ v → (s.enter v).Pr x k → s.Pr x k := fun x k e hk => by
    rcases hk with hk | ⟨nx, h1, h2⟩
    · exact .inl fun hh => hk ((mp x).2 (.inl hh))
    · refine .inr ⟨nx, ?_, h2⟩
      have : (x, nx) ∈ s.path ++ [(v, 0)] := h1
      rcases List.mem_append.1 this with h3 | h3
      · exact h3
      · simp at h3; exact absurd h3.1 e
  have prv : ∀ k, ¬ (s.enter v).Pr v k := fun k hk => by
    rcases hk with hk | ⟨nx, h1, h2⟩
    · exact hk ((mp v).2 (.inr rfl))
    · have : (v, nx) ∈ s.path ++ [(v, 0)] := h1
      rcases List.mem_append.1 this with h3 | h3
      · exact hvp (List.mem_map.2 ⟨_, h3, rfl⟩)
      · simp at h3; omega
  have lt : ∀ x ∈ s.stk, s.idx x < s.cnt + 1 := fun x _ => by have := h.le x; omega
  constructor
  · intro x
    show (s.enter v).idx x ≤ s.cnt + 1
    by_cases e : x = v
    · subst e; rw [iv]; omega
    · rw [ix x e]; have := h.le x; omega
  · intro x hx
    rcases (pos x).1 hx with hx | rfl
    · exact h.nod x hx
    · exact hv
  · intro x hx
    exact (pos x).2 (((ms x).1 hx).imp (h.stk x) id)
  · intro x
    rw [ms, ← h.on]
    show setF s.on v true x = true ↔ _
    by_cases e : x = v
    · subst e; rw [setF_at]; simp
    · rw [setF_ne _ _ e]; simp [e]
  · show (s.stk ++ [v]).Pairwise _
    rw [List.pairwise_append]
    refine ⟨h.ord.imp_of_mem fun ha hb hab => by rw [ix _ (ne _ ha), ix _ (ne _ hb)]; exact hab, List.pairwise_singleton _ _, fun a ha b hb => ?_⟩
    simp at hb
    subst hb
    rw [ix a (ne a ha), iv]
    exact lt a ha
  · rw [TS.enter_pn]
    exact h.psub.append (List.Sublist.refl [v])
  · intro x hx
    rcases (ms x).1 hx with hx' | rfl
    · obtain ⟨p, hp1, hp2⟩ := h.bot x hx'
      exact ⟨p, (mp p).2 (.inl hp1), by rw [ix p (ne p (h.pstk hp1)), ix x (ne x hx')]; exact hp2⟩
    · exact ⟨x, (mp x).2 (.inr rfl), Nat.le_refl _⟩
  · intro x hx
    exact h.dk x ((dn x).1 hx)
  · intro k hk
    obtain ⟨h1, h2, h3⟩ := h.kd k hk
    exact ⟨h1, h2, fun x hx => ⟨(dn x).2 (h3 x hx).1, (h3 x hx).2⟩⟩
  · intro x w hx he
    obtain ⟨h1, h2⟩ := h.cl x w ((dn x).1 hx) he
    exact ⟨(dn w).2 h1, h2⟩
  · intro x u hx hu
    exact h.scc x u ((dn x).1 hx) ((dn u).1 hu)
  · intro x hx k w hk he
    rcases (ms x).1 hx with hx' | rfl
    · exact (pos w).2 (.inl (h.pr x hx' k w (prx x k (ne x hx') hk) he))
    · exact absurd hk (prv k)
  · intro x hx hxp
    rcases (ms x).1 hx with hx' | rfl
    · obtain ⟨y, hy, h1, h2⟩ := h.j1 x hx' fun hh => hxp ((mp x).2 (.inl hh))
      exact ⟨y, (ms y).2 (.inl hy), by rw [ix y (ne y hy), ix x (ne x hx')]; exact h1, h2⟩
    · exact absurd ((mp x).2 (.inr rfl)) hxp
  · intro p hp' x hx hle
    rcases (mp p).1 hp' with hp1 | rfl
    · rcases (ms x).1 hx with hx' | rfl
      · rw [ix p (ne p (h.pstk hp1)), ix x (ne x hx')] at hle
        exact h.j2 p hp1 x hx' hle
      · exact hp p hp1
    · rcases (ms x).1 hx with hx' | rfl
      · rw [iv, ix x (ne x hx')] at hle
        have := lt x hx'
        omega
      · exact .refl _
  · intro p hp'
    rcases (mp p).1 hp' with hp1 | rfl
    · obtain ⟨h1, y, hy, h2, h3⟩ := h.j3 p hp1
      have hpv := ne p (h.pstk hp1)
      exact ⟨by rw [lx p hpv, ix p hpv]; exact h1, y, (ms y).2 (.inl hy), by rw [ix y (ne y hy), lx p hpv]; exact h2, h3⟩
    · exact ⟨by rw [lv, iv]; exact Nat.le_refl _, p, (ms p).2 (.inr rfl), by rw [iv, lv], .refl _⟩
  · intro A u nx B hpath x hx hle hB k w hk he hw
    have hpath : s.path ++ [(v, 0)] = A ++ (u, nx) :: B := hpath
    rcases (ms x).1 hx with hx' | rfl
    · have hxv := ne x hx'
      rw [ix x hxv] at hle hB
      have hk' := prx x k hxv hk
      have hu : u ∈ (s.enter v).pn := List.mem_map.2 ⟨(u, nx), by show _ ∈ s.path ++ [(v, 0)]; rw [hpath]; simp, rfl⟩
      have huv : u ≠ v := fun e => by
        subst e
        rw [iv] at hle
        have := lt x hx'
        omega
      have hus : u ∈ s.pn := ((mp u).1 hu).resolve_right huv
      rw [ix u huv] at hle
      rw [lx u huv]
      rcases List.eq_nil_or_concat B with rfl | ⟨B', b, rfl⟩
      · have := congrArg List.getLast? hpath
        simp at this
        exact absurd this.1.symm huv
      · have e2 : s.path ++ [(v, 0)] = (A ++ (u, nx) :: B') ++ [b] := by rw [hpath]; simp
        have e3 := List.append_inj' e2 rfl
        rcases (ms w).1 hw with hw' | rfl
        · rw [ix w (ne w hw')]
          refine h.j4 A u nx B' e3.1 x hx' hle (fun c hc => ?_) k w hk' he hw'
          have := hB c (by simp [hc])
          have hcs : c.1 ∈ s.stk := h.pstk (List.mem_map.2 ⟨c, by rw [e3.1]; simp [hc], rfl⟩)
          rwa [ix c.1 (ne _ hcs)] at this
        · have := h.pr x hx' k w hk' he
          omega
    · exact absurd hk (prv k)
theorem TInv.pnd (h : TInv g s) : s.pn.Pairwise fun a b => s.idx a < s.idx b := h.ord.sublist h.psub
/-- The path's order. -/
theorem TInv.plt (h : TInv g s) {A B : List (Nat × Nat)} {v nx : Nat} (hp : s.path = A ++ (v, nx) :: B) : (∀ a ∈ A, s.idx a.1 < s.idx v) ∧ ∀ b ∈ B, s.idx v < s.idx b.1 := by
  have := h.pnd
  unfold TS.pn at this
  rw [hp, List.map_append, List.map_cons, List.pairwise_append, List.pairwise_cons] at this
  exact ⟨fun a ha => this.2.2 a.1 (List.mem_map.2 ⟨a, ha, rfl⟩) v (by simp), fun b hb => this.2.1.1 b.1 (List.mem_map.2 ⟨b, hb, rfl⟩)⟩
/-- A frame goes on to the next edge. -/
def TS.adv (s : TS) (A B : List (Nat × Nat)) (v nx m : Nat) : TS := { s with path := A ++ (v, nx + 1) :: B, low := setF s.low v m }
theorem TInv.adv (h : TInv g s) {A B : List (Nat × Nat)} {v nx m : Nat} (hp : s.path = A ++ (v, nx) :: B) (hm : m ≤ s.low v) (hmw : m = s.low v ∨ ∃ w ∈ s.stk, EdK g v nx w ∧ m = s.idx w) (he : ∀ w, EdK g v nx w → 0 < s.idx w ∧ (w ∈ s.stk → m ≤ s.idx w)) : TInv g (s.adv A B v nx m) := by
  have hpn : (s.adv A B v nx m).pn = s.pn := by simp [TS.adv, TS.pn, hp]
  have hvp : v ∈ s.pn := by unfold TS.pn; rw [hp]; simp
  have hvs := h.pstk hvp
  obtain ⟨hA, hB⟩ := h.plt hp
  have lv : (s.adv A B v nx m).low v = m := setF_at ..
  have lx : ∀ x, x ≠ v → (s.adv A B v nx m).low x = s.low x := fun x hx => setF_ne _ _ hx
  have prx : ∀ x k, (s.adv A B v nx m).Pr x k → s.Pr x k ∨ (x = v ∧ k = nx) := fun x k hk => by
    rcases hk with hk | ⟨n1, h1, h2⟩
    · rw [hpn] at hk
      exact .inl (.inl hk)
    · have h1 : (x, n1) ∈ A ++ (v, nx + 1) :: B := h1
      rcases List.mem_append.1 h1 with h3 | h3
      · exact .inl (.inr ⟨n1, by rw [hp]; exact List.mem_append.2 (.inl h3), h2⟩)
      · rcases List.mem_cons.1 h3 with h4 | h4
        · injection h4 with h5 h6
          by_cases e : k = nx
          · exact .inr ⟨h5, e⟩
          · exact .inl (.inr ⟨nx, by rw [hp, h5]; simp, by omega⟩)
        · exact .inl (.inr ⟨n1, by rw [hp]; simp [h4], h2⟩)
  refine { le := h.le, nod := h.nod, stk := h.stk, on := h.on, ord := h.ord, psub := hpn ▸ h.psub, bot := fun x hx => hpn ▸ h.bot x hx, dk := h.dk, kd := h.kd, cl := h.cl, scc := h.scc, pr := ?_, j1 := fun x hx hxp => h.j1 x hx (hpn ▸ hxp), j2 := fun q hq => h.j2 q (hpn ▸ hq), j3 := ?_, j4 := ?_ }
  · intro x hx k w hk hw
    rcases prx x k hk with hk | ⟨rfl, rfl⟩
    · exact h.pr x hx k w hk hw
    · exact (he w hw).1
  · intro q hq
    rw [hpn] at hq
    obtain ⟨h1, y, hy, h2, h3⟩ := h.j3 q hq
    by_cases e : q = v
    · subst e
      rw [lv]
      refine ⟨by show m ≤ s.idx q; omega, ?_⟩
      rcases hmw with rfl | ⟨w, hw, hw2, rfl⟩
      · exact ⟨y, hy, h2, h3⟩
      · exact ⟨w, hw, rfl, .one ⟨_, hw2⟩⟩
    · rw [lx q e]
      exact ⟨h1, y, hy, h2, h3⟩
  · intro A' u n1 B' hpath x hx hle hBx k w hk hw hws
    have hpath : A ++ (v, nx + 1) :: B = A' ++ (u, n1) :: B' := hpath
    have hu : u ∈ s.pn := by
      rw [← hpn]
      exact List.mem_map.2 ⟨(u, n1), by show _ ∈ A ++ (v, nx + 1) :: B; rw [hpath]; simp, rfl⟩
    -- the frame of old
    have old : ∃ A0 n0 B0, s.path = A0 ++ (u, n0) :: B0 ∧ (∀ b ∈ B0, ∃ n2, (b.1, n2) ∈ B') := by
      have hmap : ∀ (l l' : List (Nat × Nat)), l.map (·.1) = l'.map (·.1) → ∀ C D u1 n1, l' = C ++ (u1, n1) :: D → ∃ C0 n0 D0, l = C0 ++ (u1, n0) :: D0 ∧ D0.map (·.1) = D.map (·.1) := by
        intro l l' hl C D u1 n1 e
        subst e
        rw [List.map_append, List.map_cons] at hl
        obtain ⟨C0, D1, rfl, h2, h3⟩ := List.map_eq_append_iff.1 hl
        obtain ⟨c, D0, rfl, h4, h5⟩ := List.map_eq_cons_iff.1 h3
        have h4 : c.1 = u1 := h4
        exact ⟨C0, c.2, D0, by rw [← h4], h5⟩
      obtain ⟨C0, n0, D0, e1, e2⟩ := hmap s.path (A ++ (v, nx + 1) :: B) (by rw [hp]; simp) A' B' u n1 hpath
      refine ⟨C0, n0, D0, e1, fun b hb => ?_⟩
      have : b.1 ∈ B'.map (·.1) := by rw [← e2]; exact List.mem_map.2 ⟨b, hb, rfl⟩
      obtain ⟨c, hc, e⟩ := List.mem_map.1 this
      exact ⟨c.2, by rw [← e]; exact hc⟩
    obtain ⟨A0, n0, B0, e1, e2⟩ := old
    have hB0 : ∀ b ∈ B0, s.idx x < s.idx b.1 := fun b hb => by
      obtain ⟨n2, hn2⟩ := e2 b hb
      have := hBx (b.1, n2) hn2
      exact this
    have hws : w ∈ s.stk := hws
    have hx : x ∈ s.stk := hx
    have hle : s.idx u ≤ s.idx x := hle
    rcases prx x k hk with hk | ⟨rfl, rfl⟩
    · have h1 := h.j4 A0 u n0 B0 e1 x hx hle hB0 k w hk hw hws
      show (s.adv A B v nx m).low u ≤ s.idx w
      by_cases e : u = v
      · subst e
        rw [lv]
        omega
      · rw [lx u e]
        exact h1
    · -- the frame itself
      have huv : u = x := by
        apply Classical.byContradiction
        intro hne
        have hlt : s.idx u < s.idx x := Nat.lt_of_le_of_ne hle fun e => hne (h.inj (h.pstk hu) hx e)
        have hxB : x ∈ B0.map (·.1) := by
          have hxp : x ∈ s.pn := hvp
          unfold TS.pn at hxp
          rw [e1, List.map_append, List.map_cons] at hxp
          rcases List.mem_append.1 hxp with h3 | h3
          · obtain ⟨c, hc, e⟩ := List.mem_map.1 h3
            have := (h.plt e1).1 c hc
            rw [e] at this
            omega
          · rcases List.mem_cons.1 h3 with h4 | h4
            · exact absurd h4.symm hne
            · exact h4
        obtain ⟨b, hb, e⟩ := List.mem_map.1 hxB
        have := hB0 b hb
        rw [e] at this
        omega
      subst huv
      show (s.adv A B u k m).low u ≤ s.idx w
      rw [lv]
      exact (he w hw).2 hws
end
section
variable {g : List (List Int)} {s : TS}
/-- A path's frames by their nodes. -/
theorem split_of_map {l l' : List (Nat × Nat)} (hl : l.map (·.1) = l'.map (·.1)) {C D : List (Nat × Nat)} {u n1 : Nat} (e : l' = C ++ (u, n1) :: D) : ∃ C0 n0 D0, l = C0 ++ (u, n0) :: D0 ∧ D0.map (·.1) = D.map (·.1) := by
  subst e
  rw [List.map_append, List.map_cons] at hl
  obtain ⟨C0, D1, rfl, h2, h3⟩ := List.map_eq_append_iff.1 hl
  obtain ⟨c, D0, rfl, h4, h5⟩ := List.map_eq_cons_iff.1 h3
  have h4 : c.1 = u := h4
  exact ⟨C0, c.2, D0, by rw [← h4], h5⟩
/-- A frame is done, but its node comes to one ahead: the frame ahead takes what it found. -/
def TS.pop (s : TS) (A : List (Nat × Nat)) (u k m : Nat) : TS := { s with path := A ++ [(u, k)], low := setF s.low u m }
theorem TInv.pop (h : TInv g s) {A : List (Nat × Nat)} {u k v nx : Nat} (hp : s.path = A ++ [(u, k), (v, nx)]) (hall : ∀ k w, EdK g v k w → k < nx) (hne : s.low v ≠ s.idx v) : TInv g (s.pop A u k (min (s.low u) (s.low v))) := by
  have hp2 : s.path = (A ++ [(u, k)]) ++ (v, nx) :: [] := by rw [hp]; simp
  have hp3 : s.path = A ++ (u, k) :: [(v, nx)] := hp
  have hpn : s.pn = (s.pop A u k (min (s.low u) (s.low v))).pn ++ [v] := by simp [TS.pop, TS.pn, hp]
  have hup : u ∈ s.pn := by unfold TS.pn; rw [hp]; simp
  have hvp : v ∈ s.pn := by unfold TS.pn; rw [hp]; simp
  have huv : s.idx u < s.idx v := (h.plt hp3).2 (v, nx) (by simp)
  obtain ⟨hlv, y, hy, hy2, hy3⟩ := h.j3 v hvp
  obtain ⟨hlu, z, hz, hz2, hz3⟩ := h.j3 u hup
  have hvs := h.pstk hvp
  have mp : ∀ x, x ∈ s.pn ↔ x ∈ (s.pop A u k (min (s.low u) (s.low v))).pn ∨ x = v := fun x => by rw [hpn]; simp
  have lu : (s.pop A u k (min (s.low u) (s.low v))).low u = min (s.low u) (s.low v) := setF_at ..
  have lx : ∀ x, x ≠ u → (s.pop A u k (min (s.low u) (s.low v))).low x = s.low x := fun x hx => setF_ne _ _ hx
  have prx : ∀ x j w, EdK g x j w → (s.pop A u k (min (s.low u) (s.low v))).Pr x j → s.Pr x j := fun x j w he hk => by
    by_cases e : x = v
    · subst e
      exact .inr ⟨nx, by rw [hp]; simp, hall j w he⟩
    · rcases hk with hk | ⟨n1, h1, h2⟩
      · exact .inl fun hh => ((mp x).1 hh).elim hk e
      · have h1 : (x, n1) ∈ A ++ [(u, k)] := h1
        exact .inr ⟨n1, by rw [hp2]; exact List.mem_append.2 (.inl h1), h2⟩
  have low : ∀ x ∈ s.stk, s.idx x < s.idx v → x ≠ v := fun x _ hx e => by subst e; omega
  refine { le := h.le, nod := h.nod, stk := h.stk, on := h.on, ord := h.ord, psub := ?_, bot := fun x hx => ?_, dk := h.dk, kd := h.kd, cl := h.cl, scc := h.scc, pr := fun x hx j w hk he => h.pr x hx j w (prx x j w he hk) he, j1 := fun x hx hxp => ?_, j2 := fun q hq => h.j2 q ((mp q).2 (.inl hq)), j3 := fun q hq => ?_, j4 := ?_ }
  · have := h.psub
    rw [hpn] at this
    exact (List.sublist_append_left _ _).trans this
  · obtain ⟨q, hq, hq2⟩ := h.bot x hx
    rcases (mp q).1 hq with hq | rfl
    · exact ⟨q, hq, hq2⟩
    · exact ⟨u, by simp [TS.pop, TS.pn], by show s.idx u ≤ s.idx x; omega⟩
  · by_cases e : x = v
    · subst e
      exact ⟨y, hy, by show s.idx y < s.idx x; omega, hy3⟩
    · exact h.j1 x hx fun hh => ((mp x).1 hh).elim hxp e
  · by_cases e : q = u
    · subst e
      rw [lu]
      refine ⟨by show _ ≤ s.idx q; omega, ?_⟩
      by_cases hc : s.low q ≤ s.low v
      · exact ⟨z, hz, by rw [Nat.min_eq_left hc]; exact hz2, hz3⟩
      · exact ⟨y, hy, by rw [Nat.min_eq_right (by omega)]; exact hy2, (h.j2 q hup v hvs (by omega)).trans hy3⟩
    · rw [lx q e]
      exact h.j3 q ((mp q).2 (.inl hq))
  · intro A' a n1 B' hpath x hx hle hBx j w hk he hws
    have hpath : A ++ [(u, k)] = A' ++ (a, n1) :: B' := hpath
    have hx : x ∈ s.stk := hx
    have hws : w ∈ s.stk := hws
    have hle : s.idx a ≤ s.idx x := hle
    have hk' := prx x j w he hk
    have hfull : s.path = A' ++ (a, n1) :: (B' ++ [(v, nx)]) := by rw [hp2, hpath]; simp
    by_cases hxv : s.idx x < s.idx v
    · have h1 := h.j4 A' a n1 (B' ++ [(v, nx)]) hfull x hx hle (fun b hb => by
        rcases List.mem_append.1 hb with hb | hb
        · exact hBx b hb
        · simp at hb; rw [hb]; exact hxv) j w hk' he hws
      show (s.pop A u k (min (s.low u) (s.low v))).low a ≤ s.idx w
      by_cases e : a = u
      · subst e; rw [lu]; omega
      · rw [lx a e]; exact h1
    · have h1 := h.j4 (A ++ [(u, k)]) v nx [] hp2 x hx (by omega) (fun b hb => by cases hb) j w hk' he hws
      have hau : a = u := by
        rcases List.eq_nil_or_concat B' with rfl | ⟨B2, b, rfl⟩
        · have := congrArg List.getLast? hpath
          simp at this
          exact this.1.symm
        · have e2 : A ++ [(u, k)] = (A' ++ (a, n1) :: B2) ++ [b] := by rw [hpath]; simp
          have e3 := List.append_inj' e2 rfl
          have e4 : b = (u, k) := by have := e3.2; simp at this; exact this.symm
          have := hBx b (by simp)
          rw [e4] at this
          have this : s.idx x < s.idx u := this
          omega
      subst hau
      show (s.pop A a k (min (s.low a) (s.low v))).low a ≤ s.idx w
      rw [lu]
      omega
/-- A knot is found: from the node on that comes to none ahead. -/
def TS.leave (s : TS) (A : List (Nat × Nat)) (L T l : List Nat) : TS := ⟨s.idx, s.low, fun x => s.on x && !decide (x ∈ T), L, fun x => if x ∈ T then s.kn.length else s.of x, s.cnt, s.kn ++ [l], A⟩
theorem TInv.leave (h : TInv g s) {A : List (Nat × Nat)} {v nx : Nat} {L T l : List Nat} (hp : s.path = A ++ [(v, nx)]) (hall : ∀ k w, EdK g v k w → k < nx) (he : s.low v = s.idx v) (hs : s.stk = L ++ T) (hT : T.head? = some v) (hl : l.Pairwise (· < ·)) (hlT : ∀ x, x ∈ l ↔ x ∈ T) : TInv g (s.leave A L T l) := by
  have hp2 : s.path = A ++ (v, nx) :: [] := hp
  have hvp : v ∈ s.pn := by unfold TS.pn; rw [hp]; simp
  have hvs := h.pstk hvp
  have hvT : v ∈ T := by cases T with
    | nil => cases hT
    | cons a r => simp at hT; simp [hT]
  have hord := h.ord
  rw [hs, List.pairwise_append] at hord
  obtain ⟨oL, oT, oLT⟩ := hord
  have hTge : ∀ x ∈ T, s.idx v ≤ s.idx x := fun x hx => by
    cases T with
    | nil => cases hT
    | cons a r =>
      simp at hT
      subst hT
      rcases List.mem_cons.1 hx with e | hx
      · rw [e]; exact Nat.le_refl _
      · exact Nat.le_of_lt ((List.pairwise_cons.1 oT).1 x hx)
  have hLlt : ∀ x ∈ L, s.idx x < s.idx v := fun x hx => oLT x hx v hvT
  have mT : ∀ x, x ∈ T ↔ x ∈ s.stk ∧ s.idx v ≤ s.idx x := fun x => by
    rw [hs, List.mem_append]
    constructor
    · exact fun hx => ⟨.inr hx, hTge x hx⟩
    · rintro ⟨hx | hx, h2⟩
      · have := hLlt x hx; omega
      · exact hx
  have mL : ∀ x, x ∈ L ↔ x ∈ s.stk ∧ x ∉ T := fun x => by
    constructor
    · intro hx
      exact ⟨by rw [hs]; exact List.mem_append.2 (.inl hx), fun hh => by have := hLlt x hx; have := hTge x hh; omega⟩
    · rintro ⟨hx, h2⟩
      rw [hs, List.mem_append] at hx
      exact hx.resolve_right h2
  have hpnA : s.pn = A.map (·.1) ++ [v] := by simp [TS.pn, hp]
  have hA : ∀ a ∈ A, s.idx a.1 < s.idx v := (h.plt hp2).1
  have hpnT : ∀ x ∈ T, x ∈ s.pn → x = v := fun x hx hxp => by
    rw [hpnA] at hxp
    rcases List.mem_append.1 hxp with h1 | h1
    · obtain ⟨a, ha, e⟩ := List.mem_map.1 h1
      have := hA a ha
      have := hTge x hx
      rw [e] at *
      omega
    · simpa using h1
  -- all edges of the knot were looked at
  have prT : ∀ x ∈ T, ∀ j w, EdK g x j w → s.Pr x j := fun x hx j w hj => by
    by_cases e : x ∈ s.pn
    · have := hpnT x hx e
      subst this
      exact .inr ⟨nx, by rw [hp]; simp, hall j w hj⟩
    · exact .inl e
  have clT : ∀ x ∈ T, ∀ w, Ed g x w → w ∈ T ∨ s.Dn w := fun x hx w ⟨j, hj⟩ => by
    have hxs := ((mT x).1 hx).1
    have hk := prT x hx j w hj
    have h1 := h.pr x hxs j w hk hj
    by_cases hw : w ∈ s.stk
    · refine .inl ((mT w).2 ⟨hw, ?_⟩)
      have := h.j4 A v nx [] hp2 x hxs (hTge x hx) (fun b hb => by cases hb) j w hk hj hw
      omega
    · exact .inr ⟨h1, hw⟩
  have dnT : ∀ x ∈ T, ¬ s.Dn x := fun x hx hh => hh.2 ((mT x).1 hx).1
  have down : ∀ x ∈ T, Rg g v x := fun x hx => h.j2 v hvp x ((mT x).1 hx).1 (hTge x hx)
  have clTD : ∀ a b, (a ∈ T ∨ s.Dn a) → Ed g a b → (b ∈ T ∨ s.Dn b) := fun a b ha e => ha.elim (fun ha => clT a ha b e) fun ha => .inr (h.cl a b ha e).1
  have up : ∀ m x, x ∈ T → s.idx x = m → Rg g x v := by
    intro m
    induction m using Nat.strongRecOn with
    | _ m ih =>
      intro x hx hm
      by_cases e : x ∈ s.pn
      · rw [hpnT x hx e]; exact .refl _
      · obtain ⟨y, hy, h1, h2⟩ := h.j1 x ((mT x).1 hx).1 e
        have hyT : y ∈ T := ((h2.closed clTD) (.inl hx)).resolve_right fun hh => hh.2 hy
        exact h2.trans (ih (s.idx y) (by omega) y hyT rfl)
  have clD : ∀ a b, s.Dn a → Ed g a b → s.Dn b := fun a b ha e => (h.cl a b ha e).1
  have ofT : ∀ x ∈ T, (s.leave A L T l).of x = s.kn.length := fun x hx => if_pos hx
  have ofD : ∀ x, x ∉ T → (s.leave A L T l).of x = s.of x := fun x hx => if_neg hx
  have dn : ∀ x, (s.leave A L T l).Dn x ↔ s.Dn x ∨ x ∈ T := fun x => by
    show 0 < s.idx x ∧ x ∉ L ↔ _
    rw [mL]
    constructor
    · rintro ⟨h1, h2⟩
      by_cases e : x ∈ s.stk
      · exact .inr (Classical.byContradiction fun hh => h2 ⟨e, hh⟩)
      · exact .inl ⟨h1, e⟩
    · rintro (h1 | h1)
      · exact ⟨h1.1, fun hh => h1.2 hh.1⟩
      · exact ⟨h.stk x ((mT x).1 h1).1, fun hh => hh.2 h1⟩
  have mp : ∀ x, x ∈ (s.leave A L T l).pn ↔ x ∈ s.pn ∧ x ≠ v := fun x => by
    show x ∈ A.map (·.1) ↔ _
    rw [hpnA]
    constructor
    · intro hx
      refine ⟨by simp only [List.mem_append]; exact .inl hx, fun e => ?_⟩
      obtain ⟨a, ha, e2⟩ := List.mem_map.1 hx
      have := hA a ha
      rw [e2, e] at this
      omega
    · rintro ⟨hx, h2⟩
      rcases List.mem_append.1 hx with h1 | h1
      · exact h1
      · simp at h1; exact absurd h1 h2
  have knl : ∀ k, k < s.kn.length → (s.leave A L T l).kn[k]! = s.kn[k]! := fun k hk => by
    show (s.kn ++ [l])[k]! = _
    rw [getElem!_pos _ k (by simp; omega), getElem!_pos _ k hk, List.getElem_append_left hk]
  have kne : (s.leave A L T l).kn[s.kn.length]! = l := by
    show (s.kn ++ [l])[s.kn.length]! = _
    rw [getElem!_pos _ _ (by simp)]
    simp
  have knL : (s.leave A L T l).kn.length = s.kn.length + 1 := by simp [TS.leave]
  have pr2 : ∀ x ∈ L, ∀ j, (s.leave A L T l).Pr x j → s.Pr x j := fun x hx j hk => by
    have hxv : x ≠ v := fun e => ((mL x).1 hx).2 (e ▸ hvT)
    rcases hk with hk | ⟨n1, h1, h2⟩
    · exact .inl fun hh => hk ((mp x).2 ⟨hh, hxv⟩)
    · have h1 : (x, n1) ∈ A := h1
      exact .inr ⟨n1, by rw [hp]; simp [h1], h2⟩
  refine { le := h.le, nod := h.nod, stk := fun x hx => h.stk x ((mL x).1 hx).1, on := fun x => ?_, ord := oL, psub := ?_, bot := fun x hx => ?_, dk := fun x hx => ?_, kd := fun k hk => ?_, cl := fun x w hx e => ?_, scc := fun x u hx hu => ?_, pr := fun x hx j w hk hj => h.pr x ((mL x).1 hx).1 j w (pr2 x hx j hk) hj, j1 := fun x hx hxp => ?_, j2 := fun q hq x hx => h.j2 q ((mp q).1 hq).1 x ((mL x).1 hx).1, j3 := fun q hq => ?_, j4 := ?_ }
  · show (s.on x && !decide (x ∈ T)) = true ↔ x ∈ L
    rw [mL, Bool.and_eq_true, h.on, Bool.not_eq_true', decide_eq_false_iff_not]
  · show (A.map (·.1)).Sublist L
    have h1 := h.psub
    rw [hpnA, hs] at h1
    have h2 : (A.map (·.1)).Sublist (L ++ T) := (List.sublist_append_left _ _).trans h1
    obtain ⟨l1, l2, e, s1, s2⟩ := List.sublist_append_iff.1 h2
    have : l2 = [] := by
      cases l2 with
      | nil => rfl
      | cons c r =>
        have hc : c ∈ T := s2.subset (by simp)
        have hcA : c ∈ A.map (·.1) := by rw [e]; simp
        obtain ⟨a, ha, e2⟩ := List.mem_map.1 hcA
        have := hA a ha
        have := hTge c hc
        rw [e2] at *
        omega
    rw [e, this, List.append_nil]
    exact s1
  · obtain ⟨q, hq, hq2⟩ := h.bot x ((mL x).1 hx).1
    refine ⟨q, (mp q).2 ⟨hq, fun e => ?_⟩, hq2⟩
    subst e
    have := hLlt x hx
    omega
  · by_cases e : x ∈ T
    · rw [ofT x e, knL, kne]
      exact ⟨by omega, (hlT x).2 e⟩
    · have hd := ((dn x).1 hx).resolve_right e
      obtain ⟨h1, h2⟩ := h.dk x hd
      rw [ofD x e, knL, knl _ h1]
      exact ⟨by omega, h2⟩
  · rw [knL] at hk
    by_cases e : k < s.kn.length
    · rw [knl k e]
      obtain ⟨h1, h2, h3⟩ := h.kd k e
      exact ⟨h1, h2, fun x hx => ⟨(dn x).2 (.inl (h3 x hx).1), by rw [ofD x fun hh => dnT x hh (h3 x hx).1]; exact (h3 x hx).2⟩⟩
    · have e : k = s.kn.length := by omega
      subst e
      rw [kne]
      refine ⟨fun e => ?_, hl, fun x hx => ⟨(dn x).2 (.inr ((hlT x).1 hx)), ofT x ((hlT x).1 hx)⟩⟩
      have := (hlT v).2 hvT
      rw [e] at this
      cases this
  · rcases (dn x).1 hx with hd | hd
    · have := h.cl x w hd e
      refine ⟨(dn w).2 (.inl this.1), ?_⟩
      rw [ofD x fun hh => dnT x hh hd, ofD w fun hh => dnT w hh this.1]
      exact this.2
    · rw [ofT x hd]
      rcases clT x hd w e with hw | hw
      · exact ⟨(dn w).2 (.inr hw), by rw [ofT w hw]; exact Nat.le_refl _⟩
      · exact ⟨(dn w).2 (.inl hw), by rw [ofD w fun hh => dnT w hh hw]; exact Nat.le_of_lt (h.dk w hw).1⟩
  · rcases (dn x).1 hx with hd | hd
    · have hxT : x ∉ T := fun hh => dnT x hh hd
      rcases (dn u).1 hu with he' | he'
      · rw [ofD x hxT, ofD u fun hh => dnT u hh he']
        exact h.scc x u hd he'
      · rw [ofD x hxT, ofT u he']
        constructor
        · intro e
          have := (h.dk x hd).1
          omega
        · intro e
          exact absurd ((e.1.closed clD) hd) (dnT u he')
    · rcases (dn u).1 hu with he' | he'
      · rw [ofT x hd, ofD u fun hh => dnT u hh he']
        constructor
        · intro e
          have := (h.dk u he').1
          omega
        · intro e
          exact absurd ((e.2.closed clD) he') (dnT x hd)
      · rw [ofT x hd, ofT u he']
        exact ⟨fun _ => ⟨(up _ x hd rfl).trans (down u he'), (up _ u he' rfl).trans (down x hd)⟩, fun _ => rfl⟩
  · have hxs := ((mL x).1 hx).1
    have hxv : x ≠ v := fun e => ((mL x).1 hx).2 (e ▸ hvT)
    obtain ⟨y, hy, h1, h2⟩ := h.j1 x hxs fun hh => hxp ((mp x).2 ⟨hh, hxv⟩)
    exact ⟨y, (mL y).2 ⟨hy, fun hh => by have := hLlt x hx; have := hTge y hh; omega⟩, h1, h2⟩
  · obtain ⟨hq1, hq2⟩ := (mp q).1 hq
    obtain ⟨h1, y, hy, h2, h3⟩ := h.j3 q hq1
    refine ⟨h1, y, (mL y).2 ⟨hy, fun hh => ?_⟩, h2, h3⟩
    have h4 := hTge y hh
    have hqA : q ∈ A.map (·.1) := hq
    obtain ⟨a, ha, e⟩ := List.mem_map.1 hqA
    have := hA a ha
    rw [e] at this
    omega
  · intro A' a n1 B' hpath x hx hle hBx j w hk hj hws
    have hpath : A = A' ++ (a, n1) :: B' := hpath
    have hfull : s.path = A' ++ (a, n1) :: (B' ++ [(v, nx)]) := by rw [hp, hpath]; simp
    exact h.j4 A' a n1 (B' ++ [(v, nx)]) hfull x ((mL x).1 hx).1 hle (fun b hb => by
      rcases List.mem_append.1 hb with hb | hb
      · exact hBx b hb
      · simp at hb
        rw [hb]
        exact hLlt x hx) j w (pr2 x hx j hk) hj ((mL w).1 hws).1
/-- Behind the last frame: the node that began it all is no one's but its own. -/
theorem TInv.last (h : TInv g s) {v nx : Nat} (hp : s.path = [(v, nx)]) : s.low v = s.idx v := by
  have hvp : v ∈ s.pn := by unfold TS.pn; rw [hp]; simp
  obtain ⟨h1, y, hy, h2, _⟩ := h.j3 v hvp
  obtain ⟨q, hq, hq2⟩ := h.bot y hy
  unfold TS.pn at hq
  rw [hp] at hq
  simp at hq
  subst hq
  omega
theorem TInv.empty (h : TInv g s) (hp : s.path = []) : s.stk = [] := by
  cases hs : s.stk with
  | nil => rfl
  | cons a r =>
    obtain ⟨q, hq, _⟩ := h.bot a (by rw [hs]; simp)
    unfold TS.pn at hq
    rw [hp] at hq
    cases hq
end
end Go.Proofs.Ytomldckplkecbaa

/- Regions that draw their order, where several operations make blocks: each order that may be is gone through, and all come to one end. -/
namespace Go.Proofs.Ytomldckplkecbaa
open Go.RowKit
set_option linter.unusedVariables false
set_option linter.unusedSimpArgs false
section
variable {P : Program} {ops : Array Oper} {md : Region.Mode} {C : World → Prop}
def runsTo (P : Program) (o : Oper) (a : Act) (w : World) (R : Value → World → Prop) : Prop :=
  (∃ v w', (execOp a.eval o).run P w = .ok (.value v) w' ∧ R v w') ∨
  (∃ f args, (execOp a.eval o).run P w = .ok (.enter f args) w ∧ Calls P f args w fun e w' => ∃ v, e = .returned v ∧ R v w') ∨
  (∃ w', (execOp a.eval o).run P w = .ok .skip w' ∧ R undef w')
theorem runsTo.mono {o : Oper} {a : Act} {w : World} {R R' : Value → World → Prop} (h : runsTo P o a w R) (k : ∀ v w', R v w' → R' v w') : runsTo P o a w R' := by
  rcases h with ⟨v, w', h1, h2⟩ | ⟨f, args, h1, h2⟩ | ⟨w', h1, h2⟩
  · exact .inl ⟨v, w', h1, k _ _ h2⟩
  · exact .inr (.inl ⟨f, args, h1, h2.mono fun e w' ⟨v, he, h3⟩ => ⟨v, he, k _ _ h3⟩⟩)
  · exact .inr (.inr ⟨w', h1, k _ _ h2⟩)
def xUp (P : Program) (C : World → Prop) (o : Oper) (a : Act) (Φ : World → Prop) (K : (World → Prop) → Act → Prop) : Prop :=
  (∃ v, quB P o a C v ∧ K Φ (a.put o.dst v)) ∨
  (∃ Ψ : Value → World → Prop, (∀ v, Stable (Ψ v)) ∧ (∀ w, C w → Φ w → runsTo P o a w fun v w' => C w' ∧ Ψ v w') ∧ ∀ v, K (Ψ v) (a.put o.dst v))
def xOp (P : Program) (ops : Array Oper) (C : World → Prop) (i : Nat) (Φ : World → Prop) (K : (World → Prop) → Act → Prop) (a : Act) : Prop :=
  match ops[i]? with
  | none => K Φ a
  | some o => if Region.wanted o (yielded ops a.tmps) then xUp P C o a Φ K else K Φ (a.put o.dst undef)
def wpX (P : Program) (md : Region.Mode) (ops : Array Oper) (C : World → Prop) (n : Nat) (L : Array Bool → (World → Prop) → Act → Prop) : Nat → Array Bool → (World → Prop) → Act → Prop
  | 0, listed, Φ, a => L listed Φ a
  | f + 1, listed, Φ, a => Region.ready md ops listed ≠ [] ∧ ∀ i ∈ Region.ready md ops listed, i < n ∧ xOp P ops C i Φ (fun Φ' a' => wpX P md ops C n L f (listed.setIfInBounds i true) Φ' a') a
theorem xUp_mono {o : Oper} {a : Act} {Φ : World → Prop} {K K' : (World → Prop) → Act → Prop} (h : ∀ Φ a, K Φ a → K' Φ a) (hh : xUp P C o a Φ K) : xUp P C o a Φ K' := by
  rcases hh with ⟨v, h1, h2⟩ | ⟨Ψ, h1, h2, h3⟩
  · exact .inl ⟨v, h1, h _ _ h2⟩
  · exact .inr ⟨Ψ, h1, h2, fun v => h _ _ (h3 v)⟩
theorem xOp_mono {i : Nat} {a : Act} {Φ : World → Prop} {K K' : (World → Prop) → Act → Prop} (h : ∀ Φ a, K Φ a → K' Φ a) (hh : xOp P ops C i Φ K a) : xOp P ops C i Φ K' a := by
  unfold xOp at *
  split
  · rename_i ho; simp only [ho] at hh; exact h _ _ hh
  · rename_i o ho
    simp only [ho] at hh
    split
    · rename_i hw; simp only [hw, if_true] at hh; exact xUp_mono h hh
    · rename_i hw; simp only [hw] at hh; exact h _ _ hh
theorem wp_of_xUp (hC : Stable C) {o : Oper} {a : Act} {Φ : World → Prop} {K : (World → Prop) → Act → Prop} {K' : Act → World → Prop} {Q' : Exit → Act → World → Prop} {w : World} (hw : C w) (hst : Stable Φ) (hΦ : Φ w)
    (h : ∀ Φ a w', Stable Φ → C w' → Φ w' → K Φ a → K' a w') (hh : xUp P C o a Φ K) : o.wp P a w K' Q' := by
  rcases hh with ⟨v, h1, h2⟩ | ⟨Ψ, h1, h2, h3⟩
  · have h3 := h1 w hw
    unfold Oper.quietAt at h3
    unfold Oper.wp
    generalize (execOp a.eval o).run P w = r at *
    cases r with
    | ok n w' =>
      cases n <;> simp only [Oper.quietUpon] at h3 <;> simp only [Oper.upon]
      case value u =>
        obtain ⟨e1, e2⟩ := h3
        rw [e1, e2]
        exact h _ _ _ hst hw hΦ h2
      case skip =>
        obtain ⟨e1, e2⟩ := h3
        rw [e1, ← e2]
        exact h _ _ _ hst hw hΦ h2
      case enter f args =>
        obtain ⟨e1, hc⟩ := h3
        rw [e1]
        exact hc.mono fun e w'' ⟨he, hw''⟩ => by subst he; exact h _ _ _ hst (hC _ _ hw hw'') (hst _ _ hΦ hw'') h2
    | halt x w' => simp only [Oper.quietUpon] at h3
  · rcases h2 w hw hΦ with ⟨v, w', h4, h5, h6⟩ | ⟨f, args, h4, h5⟩ | ⟨w', h4, h5, h6⟩
    · unfold Oper.wp
      rw [h4]
      exact h _ _ _ (h1 v) h5 h6 (h3 v)
    · unfold Oper.wp
      rw [h4]
      refine h5.mono fun e w'' ⟨v, he, h6, h7⟩ => ?_
      subst he
      exact h _ _ _ (h1 v) h6 h7 (h3 v)
    · unfold Oper.wp
      rw [h4]
      exact h _ _ _ (h1 undef) h5 h6 (h3 undef)
theorem wpOp_of_xOp (hC : Stable C) {i : Nat} {a : Act} {Φ : World → Prop} {K : (World → Prop) → Act → Prop} {K' : Act → World → Prop} {Q' : Exit → Act → World → Prop} {w : World} (hw : C w) (hst : Stable Φ) (hΦ : Φ w)
    (h : ∀ Φ a w', Stable Φ → C w' → Φ w' → K Φ a → K' a w') (hh : xOp P ops C i Φ K a) : wpOp P ops Q' i K' a w := by
  unfold xOp at hh
  unfold wpOp
  split
  · rename_i ho; simp only [ho] at hh; exact h _ _ _ hst hw hΦ hh
  · rename_i o ho
    simp only [ho] at hh
    split
    · rename_i hwn; simp only [hwn, if_true] at hh; exact .inl (wp_of_xUp hC hw hst hΦ h hh)
    · rename_i hwn; simp only [hwn] at hh; exact h _ _ _ hst hw hΦ hh
theorem wpAny_of_X (hC : Stable C) {n g : Nat} {L : Array Bool → (World → Prop) → Act → Prop} {Q' : Exit → Act → World → Prop} (hL : ∀ listed Φ a w, C w → Φ w → L listed Φ a → wpAny P md ops Q' g listed a w) :
    ∀ (f : Nat) (listed : Array Bool) (Φ : World → Prop) (a : Act) (w : World), Stable Φ → C w → Φ w → wpX P md ops C n L f listed Φ a → wpAny P md ops Q' (f + g) listed a w
  | 0, listed, Φ, a, w, _, hw, hΦ, h => by rw [Nat.zero_add]; exact hL _ _ _ _ hw hΦ h
  | f + 1, listed, Φ, a, w, hst, hw, hΦ, h => by
    rw [show f + 1 + g = (f + g) + 1 by omega]
    exact ⟨fun h0 => absurd h0 h.1, fun i hi => wpOp_of_xOp hC hw hst hΦ (fun Φ' a' w' hst' hw' hΦ' h' => wpAny_of_X hC hL f _ Φ' a' w' hst' hw' hΦ' h') (h.2 i hi).2⟩
theorem YieldsB.xOp {i : Nat} {o : Oper} {v : Value} {a : Act} (hi : ops[i]? = some o) (hy : YieldsB P ops C o v a) {Φ : World → Prop} {K : (World → Prop) → Act → Prop} (h : K Φ (a.put o.dst v)) : xOp P ops C i Φ K a := by
  unfold Proofs.Ytomldckplkecbaa.xOp
  simp only [hi]
  rcases hy with ⟨hw, hv⟩ | ⟨hw, rfl⟩
  · simp only [hw, if_true]; exact .inl ⟨v, hv, h⟩
  · simp only [hw, Bool.false_eq_true, if_false]; exact h
theorem xOp_put {j : Nat} {oi oj : Oper} {v : Value} (hj : ops[j]? = some oj) (hap : oi.apart ops oj = true)
    (hsi : ∀ cs b, oi.op ≠ .select cs b) (hsj : ∀ cs b, oj.op ≠ .select cs b) {Φ : World → Prop} {K : (World → Prop) → Act → Prop} {a : Act}
    (hy : YieldsB P ops C oi v a) (h : xOp P ops C j Φ K (a.put oi.dst v)) :
    xOp P ops C j Φ (fun Φ' a' => YieldsB P ops C oi v a' ∧ K Φ' (a'.put oi.dst v)) a := by
  obtain ⟨h1, h2, h3⟩ := Oper.apart_spec hap
  have keep : ∀ (a : Act), YieldsB P ops C oi v a → ∀ u, YieldsB P ops C oi v (a.put oj.dst u) := fun a hy u =>
    hy.of_same (execOp_put oi hsi a oj.dst u h3) (wanted_put oi a oj.dst u h3)
  unfold Proofs.Ytomldckplkecbaa.xOp at *
  simp only [hj] at *
  rw [wanted_put oj a oi.dst v h1] at h
  split
  · rename_i hw
    simp only [hw, if_true] at h
    rcases h with ⟨u, hu, hn⟩ | ⟨Ψ, g1, g2, g3⟩
    · refine .inl ⟨u, fun w hw' => ?_, keep a hy u, by rw [← Act.put_comm a v u h2]; exact hn⟩
      have := hu w hw'
      unfold Oper.quietAt at *
      rwa [execOp_put oj hsj a oi.dst v h1] at this
    · refine .inr ⟨Ψ, g1, fun w hw' hΦ' => ?_, fun u => ⟨keep a hy u, by rw [← Act.put_comm a v u h2]; exact g3 u⟩⟩
      have := g2 w hw' hΦ'
      unfold runsTo at *
      rwa [execOp_put oj hsj a oi.dst v h1] at this
  · rename_i hw
    simp only [hw] at h
    exact ⟨keep a hy _, by rw [← Act.put_comm a v undef h2]; exact h⟩
theorem wpX_first {n i : Nat} {oi : Oper} {v : Value} {L : Array Bool → (World → Prop) → Act → Prop} (hi : ops[i]? = some oi) (hsel : ∀ (j : Nat) (o : Oper) cs b, ops[j]? = some o → o.op ≠ .select cs b)
    (hs : Region.sinkB md ops n = true) (hc : Region.chainB md ops n = true) (hn : n < ops.size) (hin : i < n)
    (hdone : ∀ listed Φ a, L listed Φ a → ∀ j ∈ Region.ready md ops listed, n ≤ j) :
    ∀ (f : Nat) (listed : Array Bool) (Φ : World → Prop) (a : Act), HeadInv md ops n listed →
      (∀ j oj, ops[j]? = some oj → j ≠ i → listed.getD j true = false → (∀ e ∈ oj.after, Region.binds md e = true → e.on ≠ i) → oi.apart ops oj = true) →
      i ∈ Region.ready md ops listed → YieldsB P ops C oi v a →
      wpX P md ops C n L f (listed.setIfInBounds i true) Φ (a.put oi.dst v) → wpX P md ops C n L (f + 1) listed Φ a := by
  intro f
  induction f with
  | zero =>
    intro listed Φ a inv _ hr hy H
    have hun := (mem_ready.1 hr).1
    refine ⟨fun h => (by rw [h] at hr; cases hr), fun j hj => ?_⟩
    have hjn : j < n := by
      rcases Nat.lt_or_ge j n with h | h
      · exact h
      · exact absurd hj (tail_waits hs hc hn inv _ i rfl hin hun j h)
    refine ⟨hjn, ?_⟩
    by_cases hji : j = i
    · subst hji; exact hy.xOp hi H
    · have := hdone _ _ _ H j (ready_mono hj hji)
      omega
  | succ f ih =>
    intro listed Φ a inv hfree hr hy H
    have hun := (mem_ready.1 hr).1
    refine ⟨fun h => (by rw [h] at hr; cases hr), fun j hj => ?_⟩
    have hjn : j < n := by
      rcases Nat.lt_or_ge j n with h | h
      · exact h
      · exact absurd hj (tail_waits hs hc hn inv _ i rfl hin hun j h)
    refine ⟨hjn, ?_⟩
    by_cases hji : j = i
    · subst hji; exact hy.xOp hi H
    · have h1 := (H.2 j (ready_mono hj hji)).2
      obtain ⟨hjun, oj, hoj, hall⟩ := mem_ready.1 hj
      have hnot : ∀ e ∈ oj.after, Region.binds md e = true → e.on ≠ i := fun e he hb heq => by
        have h1 := hall e he hb
        rw [heq, getD_both hun] at h1
        cases h1
      have h2 := xOp_put hoj (hfree j oj hoj hji hjun hnot) (fun cs b => hsel i oi cs b hi) (fun cs b => hsel j oj cs b hoj) hy h1
      have hfree' : ∀ k ok, ops[k]? = some ok → k ≠ i → (listed.setIfInBounds j true).getD k true = false →
          (∀ e ∈ ok.after, Region.binds md e = true → e.on ≠ i) → oi.apart ops ok = true := fun k ok hk hki hun hno => by
        refine hfree k ok hk hki ?_ hno
        by_cases hjk : j = k
        · subst hjk; exact hjun
        · rw [getD_set_ne true hjk] at hun; exact hun
      refine xOp_mono (fun Φ' a' h3 => ih (listed.setIfInBounds j true) Φ' a' (inv.set hj hjn) hfree' (ready_mono hr (Ne.symm hji)) h3.1 ?_) h2
      rw [Array.setIfInBounds_comm _ _ hji]
      exact h3.2

/-- The orders that may be: what is known of them without a world. -/
def exB (md : Region.Mode) (ops : Array Oper) (g n : Nat) : Nat → Array Bool → Bool
  | 0, listed => Region.seqB md ops g n listed
  | f + 1, listed => !(Region.ready md ops listed).isEmpty && (Region.ready md ops listed).all fun i => decide (i < n) && ((ops[i]?).map fun o => o.guard.isNone).getD false && exB md ops g n f (listed.setIfInBounds i true)
def exA (P : Program) (md : Region.Mode) (ops : Array Oper) (C : World → Prop) (T : Act → World → Prop) : Nat → Array Bool → Act → World → Prop
  | 0, _, a, W => T a W
  | f + 1, listed, a, W => ∀ i ∈ Region.ready md ops listed, ∀ o, ops[i]? = some o → runsTo P o a W fun v w2 => C w2 ∧ ∀ W', Below w2.heap.size w2 W' → C W' → exA P md ops C T f (listed.setIfInBounds i true) (a.put o.dst v) W'
theorem wpX_of_ex {g n : Nat} {T : Act → World → Prop} : ∀ (f : Nat) (listed : Array Bool) (Φ : World → Prop) (a : Act), exB md ops g n f listed = true → (∀ W, C W → Φ W → exA P md ops C T f listed a W) →
    wpX P md ops C n (fun listed' Φ' a' => Region.seqB md ops g n listed' = true ∧ ∀ W, C W → Φ' W → T a' W) f listed Φ a
  | 0, listed, Φ, a, hB, h => ⟨hB, h⟩
  | f + 1, listed, Φ, a, hB, h => by
    simp only [exB, Bool.and_eq_true, Bool.not_eq_true', List.isEmpty_eq_false_iff, List.all_eq_true, decide_eq_true_eq] at hB
    refine ⟨hB.1, fun i hi => ?_⟩
    obtain ⟨⟨h1, h2⟩, h3⟩ := hB.2 i hi
    refine ⟨h1, ?_⟩
    cases ho : ops[i]? with
    | none => rw [ho] at h2; simp at h2
    | some o =>
      rw [ho] at h2
      have hg : o.guard = none := by simpa using h2
      unfold Proofs.Ytomldckplkecbaa.xOp
      simp only [ho]
      rw [if_pos (by simp [Region.wanted, hg])]
      refine .inr ⟨fun v W => ∃ w2, Below w2.heap.size w2 W ∧ ∀ W', Below w2.heap.size w2 W' → C W' → exA P md ops C T f (listed.setIfInBounds i true) (a.put o.dst v) W', fun v w w' ⟨w2, h1, h2⟩ hb => ⟨w2, bup h1 hb, h2⟩, fun w hw hΦ => ?_, fun v => wpX_of_ex f _ _ _ h3 fun W hW ⟨w2, h1, h2⟩ => h2 W h1 hW⟩
      exact (h w hw hΦ i hi o ho).mono fun v w2 ⟨h4, h5⟩ => ⟨h4, w2, Below.refl _ _, h5⟩
/-- The heads that read alone, in this order, then f others in any. -/
def permB (md : Region.Mode) (ops : Array Oper) (g n f : Nat) : List Nat → Array Bool → Bool
  | [], listed => exB md ops g n f listed
  | k :: qs, listed => decide (k < n) && (Region.ready md ops listed).contains k && Region.free md ops listed k && permB md ops g n f qs (listed.setIfInBounds k true)
def setAllB : List Nat → Array Bool → Array Bool
  | [], listed => listed
  | k :: qs, listed => setAllB qs (listed.setIfInBounds k true)
def opsAt (ops : Array Oper) : List Nat → List Oper
  | [] => []
  | k :: qs => match ops[k]? with
    | some o => o :: opsAt ops qs
    | none => opsAt ops qs
theorem wpX_perm {n g f : Nat} {T : Act → World → Prop} (hsel : Region.noSelect ops = true) (hs : Region.sinkB md ops n = true) (hc : Region.chainB md ops n = true) (hn : n < ops.size) :
    ∀ (qs : List Nat) (listed : Array Bool) (Φ : World → Prop) (a : Act), HeadInv md ops n listed → permB md ops g n f qs listed = true →
    wpQB P ops C (fun a' => ∀ W, C W → Φ W → exA P md ops C T f (setAllB qs listed) a' W) (opsAt ops qs) a →
    wpX P md ops C n (fun listed' Φ' a' => Region.seqB md ops g n listed' = true ∧ ∀ W, C W → Φ' W → T a' W) (qs.length + f) listed Φ a
  | [], listed, Φ, a, inv, hB, h => by
    rw [List.length_nil, Nat.zero_add]
    exact wpX_of_ex f listed Φ a hB h
  | k :: qs, listed, Φ, a, inv, hB, h => by
    simp only [permB, Bool.and_eq_true, decide_eq_true_eq] at hB
    obtain ⟨⟨⟨hkn, hr⟩, hf⟩, hB'⟩ := hB
    have hr' : k ∈ Region.ready md ops listed := by simpa using hr
    obtain ⟨o, h0⟩ : ∃ o, ops[k]? = some o := ⟨ops[k]'(by omega), by simp⟩
    have e1 : opsAt ops (k :: qs) = o :: opsAt ops qs := by simp [opsAt, h0]
    rw [e1] at h
    have key : ∃ v, YieldsB P ops C o v a ∧ wpQB P ops C (fun a' => ∀ W, C W → Φ W → exA P md ops C T f (setAllB (k :: qs) listed) a' W) (opsAt ops qs) (a.put o.dst v) := by
      unfold wpQB at h
      by_cases hw : Region.wanted o (yielded ops a.tmps) = true
      · rw [if_pos hw] at h
        obtain ⟨v, h1, h2⟩ := h
        exact ⟨v, .inl ⟨hw, h1⟩, h2⟩
      · rw [if_neg hw] at h
        exact ⟨undef, .inr ⟨by simpa using hw, rfl⟩, h⟩
    obtain ⟨v, hy, hK⟩ := key
    have e : (k :: qs).length + f = qs.length + f + 1 := by simp; omega
    rw [e]
    exact wpX_first h0 (Region.noSelect_spec hsel) hs hc hn hkn (fun listed' Φ' a' hL => seqB_ready hL.1) (qs.length + f) listed Φ a inv (Region.free_spec h0 hf) hr' hy
      (wpX_perm hsel hs hc hn qs _ Φ _ (inv.set hr' hkn) hB' hK)
def permAll (ops : Array Oper) (qs : List Nat) (f n : Nat) : Bool :=
  Region.noSelect ops && decide (n < ops.size) && decide (qs.length + f = n) && Region.sinkB .any ops n && Region.chainB .any ops n && permB .any ops (ops.size - n) n f qs (Array.replicate ops.size false)
theorem wp_region_perm {id : Nat} {Q : Exit → Act → World → Prop} {a : Act} {w : World} {l : List Oper} (qs : List Nat) (f n : Nat) (hC : Stable C) (hm : P.follows .mixedOrders = true) (hB : permAll l.toArray qs f n = true) (hCw : C w)
    (h : wpQB P l.toArray C (fun a' => ∀ W, C W → Below w.heap.size w W → exA P .any l.toArray C (wpList P l.toArray Q (l.drop n)) f (setAllB qs (Array.replicate l.toArray.size false)) a' W) (opsAt l.toArray qs) a) : (Code.region id l.toArray true).wp P Q a w := by
  simp only [permAll, Bool.and_eq_true, decide_eq_true_eq] at hB
  obtain ⟨⟨⟨⟨⟨hsel, hn⟩, hqf⟩, hs⟩, hc⟩, hperm⟩ := hB
  have hdl : (l.drop n).length = l.toArray.size - n := by simp
  have inv0 : HeadInv .any l.toArray n (Array.replicate l.toArray.size false) :=
    ⟨by simp, fun j oj _ hl => (by rw [getD_replicate_false] at hl; cases hl), fun t _ ht => getD_in (by simpa using ht) (getD_replicate_false _ _)⟩
  have H := wpX_perm (P := P) (C := C) (md := .any) (g := l.toArray.size - n) (T := wpList P l.toArray Q (l.drop n)) hsel hs hc hn qs _ (fun W => Below w.heap.size w W) a inv0 hperm h
  refine wp_region_any hm ?_
  have hst : Stable (fun W => Below w.heap.size w W) := fun _ _ h h' => bup h h'
  have hΦ : Below w.heap.size w { w with drawn := w.drawn + 1 } := ⟨rfl, rfl, rfl, Nat.le_refl _, fun _ _ => rfl⟩
  have hw' : C { w with drawn := w.drawn + 1 } := hC _ _ hCw ⟨rfl, rfl, rfl, Nat.le_refl _, fun _ _ => rfl⟩
  have := wpAny_of_X hC (Q' := Q) (g := l.toArray.size - n) (L := fun listed' Φ' a' => Region.seqB .any l.toArray (l.toArray.size - n) n listed' = true ∧ ∀ W, C W → Φ' W → wpList P l.toArray Q (l.drop n) a' W) (fun listed Φ a' W hW hΦ hL => by
    have := wpAny_of_seq (md := .any) (Q' := Q) (l.drop n) n listed a' W (fun j => by simp [List.getElem?_drop]) (by rw [hdl]; exact hL.1) (hL.2 W hW hΦ)
    rwa [hdl] at this) _ _ (fun W => Below w.heap.size w W) a _ hst hw' hΦ H
  have e : qs.length + f + (l.toArray.size - n) = l.toArray.size := by omega
  rwa [e] at this
end
/-! ### in the frames -/
section
variable {P : Program} {T : Nat → Option TI} {n : Nat} {Q : Post} {F : Fm} {w : World} {ops : Array Oper} {rest : List Oper} {o : Oper} {K : Fm → World → Prop} {C : World → Prop}
structure wb (P : Program) (n : Nat) (o : Oper) (F : Fm) (w : World) (K : Fm → World → Prop) : Prop where
  dst : dstOk n o.dst = true
  go : (∃ v w', (execOp (ev F) o).run P w = .ok (.value v) w' ∧ K (updO F o.dst v) w') ∨
    (∃ f args, (execOp (ev F) o).run P w = .ok (.enter f args) w ∧ Calls P f args w fun e w' => ∃ v, e = .returned v ∧ K (updO F o.dst v) w') ∨
    (∃ w', (execOp (ev F) o).run P w = .ok .skip w' ∧ K (updO F o.dst undef) w')
theorem wb.runs {a : Act} (h : wb P n o F w K) (ha : Fr a n F) : runsTo P o a w fun v w' => K (updO F o.dst v) w' := by
  unfold runsTo
  rw [ha.eval]
  exact h.go
theorem wb_a (h : wa P n o F w K) : wb P n o F w K := let ⟨v, w2, h1, h2, h3⟩ := h.go; ⟨h2, .inl ⟨v, w2, h1, h3⟩⟩
theorem wb_P (hT : TabOk P T) {v : Value} (h : pureF T o.op F = some v) {d : Nat} (hd : o.dst = some d) (hn : Nat.blt d n = true) (k : K (upd F d v) w) : wb P n o F w K :=
  ⟨dst_some hd hn, .inl ⟨v, w, pure_ok hT h, by rw [hd]; exact k⟩⟩
theorem wb_val {v : Value} {w1 : World} {d : Nat} (hd : o.dst = some d) (hn : Nat.blt d n = true) (hrun : (execOp (ev F) o).run P w = .ok (.value v) w1) (k : K (upd F d v) w1) : wb P n o F w K :=
  ⟨dst_some hd hn, .inl ⟨v, w1, hrun, by rw [hd]; exact k⟩⟩
theorem wb_mk (hT : TabOk P T) (e s b : Nat) {t : TypeId} {x y : Operand} {m : Nat} {i : TI} {z : List Value} (hop : o.op = .makeSlice t x y) (hx : ev F x = .int .i64 m) (hy : ev F y = .int .i64 m) (h1 : appT T t e s b = true) (hi : T e = some i) (hz : i.zero.cells = z.toArray) {d : Nat} (hd : o.dst = some d) (hn : Nat.blt d n = true)
    (hbig : b * m ≤ 281474976710656) (h63 : m ≤ 9223372036854775807)
    (k : ∀ g w1, New w w1 g (List.replicate m z).flatten e → K (upd F d (.slice (some ⟨g, 0, none⟩) m m)) w1) : wb P n o F w K := by
  obtain ⟨hu, j, z', hj, hz', hs, hby, hzs⟩ := appT_ok hT h1
  obtain ⟨j2, hj2, hz2, _, _⟩ := T_i hT hi
  rw [hj] at hj2
  cases hj2
  rw [hz'] at hz2
  cases hz2
  refine wb_val hd hn ?_ (k _ _ (new_alloc w _ e))
  have hbi : ((j.bytes : Int) * (m : Int)) ≤ 281474976710656 := by rw [hby, ← Int.natCast_mul]; omega
  have hr := run_make (P := P) w t e j i.zero hu hj hz' .i64 .i64 m m (by omega) (by omega) hbi (by omega)
  simp only [Int.toNat_natCast] at hr
  have hc : madeCells i.zero.cells (m * j.size) = ((List.replicate m z).flatten).toArray := by
    rw [← zeros_eq z m]
    have hzl : z.length = s := by rw [hz] at hzs; simpa using hzs
    unfold madeCells
    rw [hz, hs, hzl]
    apply Array.ext'
    simp [hzl]
  rw [hc] at hr
  simp [execOp, hop, hx, hy, hr]
theorem wb_C {f : FuncId} {c : Call} {x : Operand} {args : List Value} {R : Ending → World → Prop} (hf : FnOk P f) (hc : Calls P f args.toArray w R) (hop : o.op = .call c) (hcal : c.callee = .value x) (hx : ev F x = .func (.func f) #[] #[]) (hargs : c.args.toList.map (ev F) = args) {d : Nat} (hd : o.dst = some d) (hn : Nat.blt d n = true)
    (k : ∀ e w1, R e w1 → ∃ v, e = .returned v ∧ K (upd F d v) w1) : wb P n o F w K := by
  refine ⟨dst_some hd hn, .inr (.inl ⟨f, args.toArray, ?_, hc.mono fun e w' h => by rw [hd]; exact k e w' h⟩)⟩
  have : c.args.map (ev F) = args.toArray := Array.toList_inj.1 (by rw [Array.toList_map, hargs])
  simp [execOp, hop, resolve, hcal, hx, Deferred.ofValue, this, invoke, run_callFunc hf]
def allL (p : Nat → Prop) : List Nat → Prop
  | [] => True
  | i :: l => p i ∧ allL p l
theorem allL_mem {p : Nat → Prop} : ∀ {l : List Nat}, allL p l → ∀ i ∈ l, p i
  | [], _, i, h => by cases h
  | j :: l, ⟨h1, h2⟩, i, h => by
    rcases List.mem_cons.1 h with rfl | h
    · exact h1
    · exact allL_mem h2 i h
def rdyL (l : List Oper) (listed : List Bool) : List Nat :=
  (List.range l.length).filter fun i => !(listed.getD i true) && match l[i]? with
    | some o => o.after.toList.all fun e => !Region.binds .any e || listed.getD e.on false
    | none => false
theorem rdyL_eq (l : List Oper) (listed : List Bool) : Region.ready .any l.toArray listed.toArray = rdyL l listed := by
  unfold Region.ready rdyL
  have e1 : l.toArray.size = l.length := by simp
  rw [e1]
  congr 1
  funext i
  have e2 : ∀ (d : Bool) (k : Nat), listed.toArray.getD k d = listed.getD k d := fun d k => by simp [Array.getD_eq_getD_getElem?, List.getD_eq_getElem?_getD]
  rw [e2]
  congr 1
  have e3 : l.toArray[i]? = l[i]? := by simp
  rw [e3]
  cases l[i]? with
  | none => rfl
  | some o =>
    simp only [Option.map_some, Option.getD_some]
    rw [← Array.all_toList]
    congr 1
    funext e
    rw [e2]
def setAllL : List Nat → List Bool → List Bool
  | [], listed => listed
  | k :: qs, listed => setAllL qs (listed.set k true)
theorem setAllL_eq : ∀ (qs : List Nat) (listed : List Bool), setAllB qs listed.toArray = (setAllL qs listed).toArray
  | [], _ => rfl
  | k :: qs, listed => by
    simp only [setAllB, setAllL]
    rw [← setAllL_eq qs]
    congr 1
    simp
def opF (P : Program) (n : Nat) (l : List Oper) (i : Nat) (F : Fm) (w : World) (K : Fm → World → Prop) : Prop :=
  match l[i]? with
  | some o => wb P n o F w K
  | none => True
def exF (P : Program) (n : Nat) (l : List Oper) (C : World → Prop) (T : Fm → World → Prop) : Nat → List Bool → Fm → World → Prop
  | 0, _, F, W => T F W
  | f + 1, listed, F, W => allL (fun i => opF P n l i F W fun F2 w2 => C w2 ∧ ∀ W', Below w2.heap.size w2 W' → C W' → exF P n l C T f (listed.set i true) F2 W') (rdyL l listed)
theorem exA_of {l : List Oper} {T : Fm → World → Prop} {T' : Act → World → Prop} (hT' : ∀ a F W, Fr a n F → T F W → T' a W) : ∀ (f : Nat) (listed : List Bool) (a : Act) (F : Fm) (W : World), Fr a n F → exF P n l C T f listed F W → exA P .any l.toArray C T' f listed.toArray a W
  | 0, _, a, F, W, ha, h => hT' a F W ha h
  | f + 1, listed, a, F, W, ha, h => fun i hi o ho => by
    rw [rdyL_eq] at hi
    have h1 := allL_mem h i hi
    unfold opF at h1
    have ho' : l[i]? = some o := by simpa using ho
    rw [ho'] at h1
    refine (h1.runs ha).mono fun v w2 ⟨h3, h4⟩ => ⟨h3, fun W' hW' hC' => ?_⟩
    have := exA_of hT' f _ _ _ W' (ha.put h1.dst v) (h4 W' hW' hC')
    have e : (listed.set i true).toArray = listed.toArray.setIfInBounds i true := by simp
    rwa [e] at this
def opsL (l : List Oper) : List Nat → List Oper
  | [] => []
  | k :: qs => match l[k]? with
    | some o => o :: opsL l qs
    | none => opsL l qs
theorem opsL_eq (l : List Oper) : ∀ qs, opsAt l.toArray qs = opsL l qs
  | [] => rfl
  | k :: qs => by
    have e3 : l.toArray[k]? = l[k]? := by simp
    simp only [opsAt, opsL, e3, opsL_eq l qs]
/-- qs: the heads that read alone; f: how many others come ahead of the tail, which begins at number m. -/
theorem wc_qx {id : Nat} {l : List Oper} (qs : List Nat) (f m : Nat) (hC : Stable C) (hT : TabOk P T) (hm : P.follows .mixedOrders = true) (hB : permAll l.toArray qs f m = true) (hCw : C w)
    (h : runQ P T n l.toArray C (opsL l qs) (fun F' => ∀ w1, C w1 → Below w.heap.size w w1 → exF P n l C (fun F2 W => runG P T n l.toArray (l.drop m) Q F2 W) f (setAllL qs (List.replicate l.length false)) F' w1) F) : wc P n (.region id l.toArray true) Q F w := by
  unfold wc
  intro a ha
  have hq := (run_q hT h).go a ha
  rw [← opsL_eq] at hq
  refine wp_region_perm qs f m hC hm hB hCw (wpQB_mono ?_ hq)
  rintro a' ⟨F', h2, h3⟩ w1 hw1 hb1
  have := exA_of (T' := wpList P l.toArray (lift n Q) (l.drop m)) (T := fun F2 W => runG P T n l.toArray (l.drop m) Q F2 W) (fun a F W ha h => ?_) _ _ _ _ _ h2 (h3 w1 hw1 hb1)
  · rw [← setAllL_eq] at this
    have e : (List.replicate l.length false).toArray = Array.replicate l.toArray.size false := by simp
    rwa [e] at this
  · have := run_l hT h
    unfold wl at this
    exact this _ ha
/-- The region's end is one, whatever its order was. -/
theorem wc_cutR {X : Type} (S : X → List (Nat × Value)) (R : X → World → Prop) {c : Code} (h : wc P n c ⟨fun F' w' => ∃ x', holds F' (S x') ∧ R x' w', fun _ _ => False, fun _ _ _ => False⟩ F w) (k : ∀ x G w, R x w → Q.n (upds G (S x)) w) : wc P n c Q F w :=
  wc_mono h (fun F' w' ⟨x', h1, h2⟩ => by have := k x' F' w' h2; rwa [upds_of_holds h1] at this) (fun _ _ h => h.elim) (fun _ _ _ h => h.elim)
end
end Go.Proofs.Ytomldckplkecbaa
