/- SolveApplies: its walk. -/
import Derived.Test.YtkjbkalakafnlaaDoorXL2008
namespace Go.Proofs.YtkjbkalakafnlaaDoor
open Go.RowKit
set_option linter.unusedVariables false
set_option linter.unusedSimpArgs false
set_option maxRecDepth 100000
theorem ownBlk9 {w : World} {g base size n : Nat} {cs : List Value} {e : TypeId} (hb : w.heap[g]? = some (.cells cs.toArray e (0, 0))) (hg : base ≤ g) (hm : n ≤ maxLen) (hs : cs.length = n * size) : w.ownsRow base e size (.slice (some ⟨g, 0, none⟩) n n) n cs :=
  ⟨by simpa using hs, .inr ⟨g, n, cs.toArray, rfl, hg, hb, Nat.le_refl _, hm, by simpa using hs, by simp [List.take_of_length_le, hs]⟩⟩
/-- A system and a constraint of the call's own, whose rows grow; O tells whose a block is. -/
structure Ap (base g9 g10 : Nat) (a : Int) (O : Nat → Nat) (w : World) (vx vy vc : Value) (xs : List Cell) (bs : List Nat) (ys : List Con) (zs : List Int) : Prop where
  x : GRow 3 dCell 71 base w vx xs bs
  xo : ∀ k, vx.ownBlock = some k → O k = 2
  bo : ∀ b ∈ bs, O b = 3
  y : GRow 4 dCon 66 base w vy ys []
  yo : ∀ k, vy.ownBlock = some k → O k = 4
  c : GInts base w vc zs
  co : ∀ k, vc.ownBlock = some k → O k = 5
  b9 : w.heap[g9]? = some (.cells #[.int .i64 30, vx, vy] 54 (0, 0))
  o9 : O g9 = 0
  b10 : w.heap[g10]? = some (.cells #[.int .u8 5, .int .i64 a, .int .i64 0, vc] 66 (0, 0))
  o10 : O g10 = 1
section
variable {base g9 g10 : Nat} {a : Int} {O : Nat → Nat} {w w1 u2 u3 : World} {vx vy vc : Value} {xs : List Cell} {bs : List Nat} {ys : List Con} {zs : List Int}
theorem GRow.keepO {α : Type} [Inhabited α] {sz : Nat} {d : Dec α} {e : TypeId} {v : Value} {xs : List α} (h : GRow sz d e base w v xs bs) {row : Option Nat} (hg : w.grownBy w1 row) {j : Nat} (hr : ∀ r, row = some r → O r = j) (hv : ∀ k, v.ownBlock = some k → O k ≠ j) (hb : ∀ b ∈ bs, O b ≠ j) : GRow sz d e base w1 v xs bs := by
  refine h.stays row hg (fun b hb' e => hb b hb' (hr b e.symm)) ?_
  cases hv' : v.ownBlock with
  | none => exact .inl rfl
  | some k => exact .inr fun e => hv k hv' (hr k e.symm)
theorem Ap.up (h : Ap base g9 g10 a O w vx vy vc xs bs ys zs) (hb : Below w.heap.size w w1) : Ap base g9 g10 a O w1 vx vy vc xs bs ys zs :=
  ⟨h.x.below hb, h.xo, h.bo, h.y.below hb, h.yo, h.c.below hb, h.co, blk_up hb h.b9, h.o9, blk_up hb h.b10, h.o10⟩
/-- Whose the grown row's block is. -/
theorem own_after {v v' : Value} {j : Nat} (hlt : ∀ k, v.ownBlock = some k → base ≤ k ∧ k < w.heap.size) (ho : ∀ k, v.ownBlock = some k → O k = j) (hob : v'.ownBlock = v.ownBlock ∨ v'.ownBlock = some w.heap.size) : ∀ k, v'.ownBlock = some k → newO O w.heap.size j k = j := fun k hk => by
  rcases hob with q | q
  · have hk' := q.symm.trans hk
    rw [newO_old (hlt k hk').2]
    exact ho k hk'
  · rw [q] at hk
    injection hk with hk
    exact newO_new (by omega)
theorem own_stay {v : Value} {j i : Nat} (hlt : ∀ k, v.ownBlock = some k → base ≤ k ∧ k < w.heap.size) (ho : ∀ k, v.ownBlock = some k → O k = i) : ∀ k, v.ownBlock = some k → newO O w.heap.size j k = i := fun k hk => by
  rw [newO_old (hlt k hk).2]
  exact ho k hk
theorem Ap.ne (h : Ap base g9 g10 a O w vx vy vc xs bs ys zs) : g9 ≠ g10 := fun e => by
  have h1 := h.o9
  have h2 := h.o10
  rw [e] at h1
  omega
theorem Ap.pushX (h : Ap base g9 g10 a O w vx vy vc xs bs ys zs) {fx cs : List Value} {E : Option Addr} {ec : Nat} {x : Cell} (hel : ∀ w', (∀ b ∈ bs, w'.heap[b]? = w.heap[b]?) → Elems 3 dCell w' fx xs)
    (hown2 : u2.ownsRow base 71 3 (.slice E (xs.length + 1) ec) (xs.length + 1) (fx ++ cs)) (hg2 : w.grownBy u2 vx.ownBlock) (hob : (Value.slice E (xs.length + 1) ec).ownBlock = vx.ownBlock ∨ (Value.slice E (xs.length + 1) ec).ownBlock = some w.heap.size)
    (hp : Put u2 u3 g9 [.int .i64 30, .slice E (xs.length + 1) ec, vy] 54) (hc : cs.length = 3) (hx : ∀ w', dCell w' cs x) : Ap base g9 g10 a (newO O w.heap.size 2) u3 (.slice E (xs.length + 1) ec) vy vc (xs ++ [x]) bs ys zs := by
  have hV := own_after (O := O) (j := 2) h.x.olt h.xo hob
  have l9 := blk_lt h.b9
  have l10 := blk_lt h.b10
  have e9 : newO O w.heap.size 2 g9 = 0 := by rw [newO_old l9]; exact h.o9
  have e10 : newO O w.heap.size 2 g10 = 1 := by rw [newO_old l10]; exact h.o10
  have x2 : GRow 3 dCell 71 base u2 (.slice E (xs.length + 1) ec) (xs ++ [x]) bs := by
    have := h.x.push hel hown2 hg2 hob hc (bs' := []) (x := x) (fun w' _ => hx w') (by simp) (by simp)
    simpa using this
  have y2 := h.y.keepO hg2 h.xo (fun k hk e => by have := h.yo k hk; omega) (by simp)
  have c2 := h.c.keepO hg2 h.xo (fun k hk e => by have := h.co k hk; omega) (by simp)
  have b2 := (hg2.block g10 l10 (fun e => by have := h.xo g10 e.symm; have := h.o10; omega)).trans h.b10
  exact ⟨x2.other hp.grown (fun b hb e => by have h1 := h.bo b hb; have h2 := h.o9; rw [e] at h1; omega) (fun k hk e => by have h1 := hV k hk; rw [e] at h1; omega), hV, fun b hb => by rw [newO_old (h.x.lt b hb).2]; exact h.bo b hb,
    y2.other hp.grown (by simp) (fun k hk e => by have h1 := h.yo k hk; have h2 := h.o9; rw [e] at h1; omega), own_stay h.y.olt h.yo,
    c2.other hp.grown (by simp) (fun k hk e => by have h1 := h.co k hk; have h2 := h.o9; rw [e] at h1; omega), own_stay h.c.olt h.co, hp.blk, e9, hp.old b2 (fun e => h.ne e.symm), e10⟩
theorem Ap.pushY (h : Ap base g9 g10 a O w vx vy vc xs bs ys zs) {fx cs : List Value} {E : Option Addr} {ec : Nat} {y : Con} (hel : ∀ w', (∀ b ∈ ([] : List Nat), w'.heap[b]? = w.heap[b]?) → Elems 4 dCon w' fx ys)
    (hown2 : u2.ownsRow base 66 4 (.slice E (ys.length + 1) ec) (ys.length + 1) (fx ++ cs)) (hg2 : w.grownBy u2 vy.ownBlock) (hob : (Value.slice E (ys.length + 1) ec).ownBlock = vy.ownBlock ∨ (Value.slice E (ys.length + 1) ec).ownBlock = some w.heap.size)
    (hp : Put u2 u3 g9 [.int .i64 30, vx, .slice E (ys.length + 1) ec] 54) (hc : cs.length = 4) (hy : ∀ w', dCon w' cs y) : Ap base g9 g10 a (newO O w.heap.size 4) u3 vx (.slice E (ys.length + 1) ec) vc xs bs (ys ++ [y]) zs := by
  have hV := own_after (O := O) (j := 4) h.y.olt h.yo hob
  have l9 := blk_lt h.b9
  have l10 := blk_lt h.b10
  have e9 : newO O w.heap.size 4 g9 = 0 := by rw [newO_old l9]; exact h.o9
  have e10 : newO O w.heap.size 4 g10 = 1 := by rw [newO_old l10]; exact h.o10
  have y2 : GRow 4 dCon 66 base u2 (.slice E (ys.length + 1) ec) (ys ++ [y]) [] := by
    have := h.y.push hel hown2 hg2 hob hc (bs' := []) (x := y) (fun w' _ => hy w') (by simp) (by simp)
    simpa using this
  have x2 := h.x.keepO hg2 h.yo (fun k hk e => by have := h.xo k hk; omega) (fun b hb e => by have := h.bo b hb; omega)
  have c2 := h.c.keepO hg2 h.yo (fun k hk e => by have := h.co k hk; omega) (by simp)
  have b2 := (hg2.block g10 l10 (fun e => by have := h.yo g10 e.symm; have := h.o10; omega)).trans h.b10
  exact ⟨x2.other hp.grown (fun b hb e => by have h1 := h.bo b hb; have h2 := h.o9; rw [e] at h1; omega) (fun k hk e => by have h1 := h.xo k hk; have h2 := h.o9; rw [e] at h1; omega), own_stay h.x.olt h.xo, fun b hb => by rw [newO_old (h.x.lt b hb).2]; exact h.bo b hb,
    y2.other hp.grown (by simp) (fun k hk e => by have h1 := hV k hk; rw [e] at h1; omega), hV,
    c2.other hp.grown (by simp) (fun k hk e => by have h1 := h.co k hk; have h2 := h.o9; rw [e] at h1; omega), own_stay h.c.olt h.co, hp.blk, e9, hp.old b2 (fun e => h.ne e.symm), e10⟩
theorem Ap.pushC (h : Ap base g9 g10 a O w vx vy vc xs bs ys zs) {fx : List Value} {E : Option Addr} {ec : Nat} {z : Int} (hel : ∀ w', (∀ b ∈ ([] : List Nat), w'.heap[b]? = w.heap[b]?) → Elems 1 (dI .i64) w' fx zs)
    (hown2 : u2.ownsRow base 3 1 (.slice E (zs.length + 1) ec) (zs.length + 1) (fx ++ [.int .i64 z])) (hg2 : w.grownBy u2 vc.ownBlock) (hob : (Value.slice E (zs.length + 1) ec).ownBlock = vc.ownBlock ∨ (Value.slice E (zs.length + 1) ec).ownBlock = some w.heap.size)
    (hp : Put u2 u3 g10 [.int .u8 5, .int .i64 a, .int .i64 0, .slice E (zs.length + 1) ec] 66) (hz : -9223372036854775808 ≤ z ∧ z ≤ 9223372036854775807) : Ap base g9 g10 a (newO O w.heap.size 5) u3 vx vy (.slice E (zs.length + 1) ec) xs bs ys (zs ++ [z]) := by
  have hV := own_after (O := O) (j := 5) h.c.olt h.co hob
  have l9 := blk_lt h.b9
  have l10 := blk_lt h.b10
  have e9 : newO O w.heap.size 5 g9 = 0 := by rw [newO_old l9]; exact h.o9
  have e10 : newO O w.heap.size 5 g10 = 1 := by rw [newO_old l10]; exact h.o10
  have c2 := gints_push h.c hel hown2 hg2 hob hz
  have x2 := h.x.keepO hg2 h.co (fun k hk e => by have := h.xo k hk; omega) (fun b hb e => by have := h.bo b hb; omega)
  have y2 := h.y.keepO hg2 h.co (fun k hk e => by have := h.yo k hk; omega) (by simp)
  have b2 := (hg2.block g9 l9 (fun e => by have := h.co g9 e.symm; have := h.o9; omega)).trans h.b9
  exact ⟨x2.other hp.grown (fun b hb e => by have h1 := h.bo b hb; have h2 := h.o10; rw [e] at h1; omega) (fun k hk e => by have h1 := h.xo k hk; have h2 := h.o10; rw [e] at h1; omega), own_stay h.x.olt h.xo, fun b hb => by rw [newO_old (h.x.lt b hb).2]; exact h.bo b hb,
    y2.other hp.grown (by simp) (fun k hk e => by have h1 := h.yo k hk; have h2 := h.o10; rw [e] at h1; omega), own_stay h.y.olt h.yo,
    c2.other hp.grown (by simp) (fun k hk e => by have h1 := hV k hk; rw [e] at h1; omega), hV, hp.old b2 h.ne, e9, hp.blk, e10⟩
theorem below_push {w0 : World} (hb : Below w0.heap.size w0 w) {g : Nat} (hg : w0.heap.size ≤ g) {v : Value} (hlt : ∀ k, v.ownBlock = some k → w0.heap.size ≤ k ∧ k < w.heap.size) (hg2 : w.grownBy u2 v.ownBlock) {cs : List Value} {t : TypeId} (hp : Put u2 u3 g cs t) : Below w0.heap.size w0 u3 := by
  have hB2 : Below w0.heap.size w0 u2 := hb.grown hg2 hb.size (fun k hk => (hlt k hk).1)
  exact hp.below hB2 hg hB2.size
end
set_option maxHeartbeats 16000000 in
theorem lawSolveAppliestrue (P1 N1 : Int) (w : World) (hT : Tab w) (ha : IntKind.u8.min ≤ P1 ∧ P1 ≤ IntKind.u8.max) (hb : IntKind.u8.min ≤ N1 ∧ N1 ≤ IntKind.u8.max) :
    Calls Tryd.prog 15 #[.int .u8 P1, .int .u8 N1, .bool true] w fun e w' => e = .returned (.bool true) ∧ Below w.heap.size w w' := by
  have ha : 0 ≤ P1 ∧ P1 ≤ 255 := ha
  have hb : 0 ≤ N1 ∧ N1 ≤ 255 := hb
  refine enterR (args := [.int .u8 P1, .int .u8 N1, .bool true]) tabOk Tryd.func15 rfl Tryd.ntmps15 rfl ?_; conv => whnf
  refine wl_C fn32 (awake20 _ hT) rfl rfl rfl rfl rfl rfl rfl ?_
  rintro _ w1 ⟨rfl, hB1⟩
  refine ⟨_, rfl, run_l tabOk ?_⟩
  conv => whnf
  (repeat' (first | (refine wl_add rfl rfl rfl rfl rfl rfl (by omega) (by omega) (run_l tabOk ?_); conv => whnf) | (refine wl_sub rfl rfl rfl rfl rfl rfl (by omega) (by omega) (run_l tabOk ?_); conv => whnf) | (refine wl_cvA tabOk rfl rfl rfl (by simp only [inK]; omega) rfl rfl rfl (run_l tabOk ?_); conv => whnf) | (refine wl_cvB tabOk rfl rfl rfl rfl rfl rfl (run_l tabOk ?_); conv => whnf) | (refine wl_rem rfl rfl rfl rfl rfl rfl (by omega) (by omega) (fun r hr hr0 hr1 hr2 => run_l tabOk ?_); conv => whnf) | (refine wl_quo rfl rfl rfl rfl rfl rfl (by omega) (by omega) (by simp only [inK]; omega) (run_l tabOk ?_); conv => whnf) | (refine wl_mul rfl rfl rfl rfl rfl rfl (by omega) (by omega) (run_l tabOk ?_); conv => whnf) | (refine gs_dt (by first | assumption | omega) ?_; conv => whnf) | (refine gs_df (by first | assumption | omega) ?_; conv => whnf) | (refine gs_t (by assumption) ?_; conv => whnf) | (refine gs_f (by assumption) ?_; conv => whnf) | (refine gs_d (fun hg => ?_) (fun hg => ?_) <;> conv => whnf) | (refine gs_n (fun hg => ?_) (fun hg => ?_) <;> conv => whnf) | (refine gs_nb (fun hg => ?_) (fun hg => ?_) <;> conv => whnf) | (refine gs_b (fun hg => ?_) (fun hg => ?_) <;> conv => whnf) | refine fin1 rfl rfl ?_))
  rename_i r' hr' hr0' hr1' hr2'
  obtain ⟨p, hp⟩ : ∃ p : Nat, r' = (p : Int) := ⟨r'.toNat, by omega⟩
  obtain ⟨n, hn⟩ : ∃ n : Nat, r = (n : Int) := ⟨r.toNat, by omega⟩
  have hp4 : p ≤ 4 := by omega
  have hn4 : n ≤ 4 := by omega
  clear hr hr0 hr1 hr2 hr' hr0' hr1' hr2'
  subst hp hn
  refine wl_bs tabOk 71 3 rfl rfl rfl rfl rfl rfl rfl rfl rfl rfl ?_
  intro g6 w2 hn2
  refine run_l tabOk ?_
  conv => whnf
  (repeat' (first | (refine wl_add rfl rfl rfl rfl rfl rfl (by omega) (by omega) (run_l tabOk ?_); conv => whnf) | (refine wl_sub rfl rfl rfl rfl rfl rfl (by omega) (by omega) (run_l tabOk ?_); conv => whnf) | (refine wl_cvA tabOk rfl rfl rfl (by simp only [inK]; omega) rfl rfl rfl (run_l tabOk ?_); conv => whnf) | (refine wl_cvB tabOk rfl rfl rfl rfl rfl rfl (run_l tabOk ?_); conv => whnf) | (refine wl_rem rfl rfl rfl rfl rfl rfl (by omega) (by omega) (fun r hr hr0 hr1 hr2 => run_l tabOk ?_); conv => whnf) | (refine wl_quo rfl rfl rfl rfl rfl rfl (by omega) (by omega) (by simp only [inK]; omega) (run_l tabOk ?_); conv => whnf) | (refine wl_mul rfl rfl rfl rfl rfl rfl (by omega) (by omega) (run_l tabOk ?_); conv => whnf) | (refine gs_dt (by first | assumption | omega) ?_; conv => whnf) | (refine gs_df (by first | assumption | omega) ?_; conv => whnf) | (refine gs_t (by assumption) ?_; conv => whnf) | (refine gs_f (by assumption) ?_; conv => whnf) | (refine gs_d (fun hg => ?_) (fun hg => ?_) <;> conv => whnf) | (refine gs_n (fun hg => ?_) (fun hg => ?_) <;> conv => whnf) | (refine gs_nb (fun hg => ?_) (fun hg => ?_) <;> conv => whnf) | (refine gs_b (fun hg => ?_) (fun hg => ?_) <;> conv => whnf) | refine fin1 rfl rfl ?_))
  refine wl_alloc tabOk rfl rfl rfl rfl rfl rfl ?_
  intro g9 w3 hn3
  (repeat' (first | (refine wl_add rfl rfl rfl rfl rfl rfl (by omega) (by omega) (run_l tabOk ?_); conv => whnf) | (refine wl_sub rfl rfl rfl rfl rfl rfl (by omega) (by omega) (run_l tabOk ?_); conv => whnf) | (refine wl_cvA tabOk rfl rfl rfl (by simp only [inK]; omega) rfl rfl rfl (run_l tabOk ?_); conv => whnf) | (refine wl_cvB tabOk rfl rfl rfl rfl rfl rfl (run_l tabOk ?_); conv => whnf) | (refine wl_rem rfl rfl rfl rfl rfl rfl (by omega) (by omega) (fun r hr hr0 hr1 hr2 => run_l tabOk ?_); conv => whnf) | (refine wl_quo rfl rfl rfl rfl rfl rfl (by omega) (by omega) (by simp only [inK]; omega) (run_l tabOk ?_); conv => whnf) | (refine wl_mul rfl rfl rfl rfl rfl rfl (by omega) (by omega) (run_l tabOk ?_); conv => whnf) | (refine gs_dt (by first | assumption | omega) ?_; conv => whnf) | (refine gs_df (by first | assumption | omega) ?_; conv => whnf) | (refine gs_t (by assumption) ?_; conv => whnf) | (refine gs_f (by assumption) ?_; conv => whnf) | (refine gs_d (fun hg => ?_) (fun hg => ?_) <;> conv => whnf) | (refine gs_n (fun hg => ?_) (fun hg => ?_) <;> conv => whnf) | (refine gs_nb (fun hg => ?_) (fun hg => ?_) <;> conv => whnf) | (refine gs_b (fun hg => ?_) (fun hg => ?_) <;> conv => whnf) | refine fin1 rfl rfl ?_))
  refine wl_Sa tabOk hn3.blk rfl rfl rfl rfl rfl (by simp [Value.oneCell']) rfl rfl ?_
  intro w4 hp4'
  refine run_l tabOk ?_
  conv => whnf
  (repeat' (first | (refine wl_add rfl rfl rfl rfl rfl rfl (by omega) (by omega) (run_l tabOk ?_); conv => whnf) | (refine wl_sub rfl rfl rfl rfl rfl rfl (by omega) (by omega) (run_l tabOk ?_); conv => whnf) | (refine wl_cvA tabOk rfl rfl rfl (by simp only [inK]; omega) rfl rfl rfl (run_l tabOk ?_); conv => whnf) | (refine wl_cvB tabOk rfl rfl rfl rfl rfl rfl (run_l tabOk ?_); conv => whnf) | (refine wl_rem rfl rfl rfl rfl rfl rfl (by omega) (by omega) (fun r hr hr0 hr1 hr2 => run_l tabOk ?_); conv => whnf) | (refine wl_quo rfl rfl rfl rfl rfl rfl (by omega) (by omega) (by simp only [inK]; omega) (run_l tabOk ?_); conv => whnf) | (refine wl_mul rfl rfl rfl rfl rfl rfl (by omega) (by omega) (run_l tabOk ?_); conv => whnf) | (refine gs_dt (by first | assumption | omega) ?_; conv => whnf) | (refine gs_df (by first | assumption | omega) ?_; conv => whnf) | (refine gs_t (by assumption) ?_; conv => whnf) | (refine gs_f (by assumption) ?_; conv => whnf) | (refine gs_d (fun hg => ?_) (fun hg => ?_) <;> conv => whnf) | (refine gs_n (fun hg => ?_) (fun hg => ?_) <;> conv => whnf) | (refine gs_nb (fun hg => ?_) (fun hg => ?_) <;> conv => whnf) | (refine gs_b (fun hg => ?_) (fun hg => ?_) <;> conv => whnf) | refine fin1 rfl rfl ?_))
  refine wl_alloc tabOk rfl rfl rfl rfl rfl rfl ?_
  intro g10 w5 hn5
  (repeat' (first | (refine wl_add rfl rfl rfl rfl rfl rfl (by omega) (by omega) (run_l tabOk ?_); conv => whnf) | (refine wl_sub rfl rfl rfl rfl rfl rfl (by omega) (by omega) (run_l tabOk ?_); conv => whnf) | (refine wl_cvA tabOk rfl rfl rfl (by simp only [inK]; omega) rfl rfl rfl (run_l tabOk ?_); conv => whnf) | (refine wl_cvB tabOk rfl rfl rfl rfl rfl rfl (run_l tabOk ?_); conv => whnf) | (refine wl_rem rfl rfl rfl rfl rfl rfl (by omega) (by omega) (fun r hr hr0 hr1 hr2 => run_l tabOk ?_); conv => whnf) | (refine wl_quo rfl rfl rfl rfl rfl rfl (by omega) (by omega) (by simp only [inK]; omega) (run_l tabOk ?_); conv => whnf) | (refine wl_mul rfl rfl rfl rfl rfl rfl (by omega) (by omega) (run_l tabOk ?_); conv => whnf) | (refine gs_dt (by first | assumption | omega) ?_; conv => whnf) | (refine gs_df (by first | assumption | omega) ?_; conv => whnf) | (refine gs_t (by assumption) ?_; conv => whnf) | (refine gs_f (by assumption) ?_; conv => whnf) | (refine gs_d (fun hg => ?_) (fun hg => ?_) <;> conv => whnf) | (refine gs_n (fun hg => ?_) (fun hg => ?_) <;> conv => whnf) | (refine gs_nb (fun hg => ?_) (fun hg => ?_) <;> conv => whnf) | (refine gs_b (fun hg => ?_) (fun hg => ?_) <;> conv => whnf) | refine fin1 rfl rfl ?_))
  refine wl_Sa tabOk hn5.blk rfl rfl rfl rfl rfl (by simp [Value.oneCell']) rfl rfl ?_
  intro w6 hp6
  refine run_l tabOk ?_
  conv => whnf
  have hg6 : w1.heap.size ≤ g6 := by have := hn2.at_; omega
  have n69 : g6 < g9 := by have := hn3.at_; have := blk_lt hn2.blk; omega
  have n910 : g9 < g10 := by have := hn5.at_; have := blk_lt hp4'.blk; omega
  have hB4 : Below w1.heap.size w1 w4 := hp4'.below (bup hn2.below hn3.below) (by omega) (by have := hn2.size; have := hn3.size; omega)
  have hB6 : Below w1.heap.size w1 w6 := hp6.below (bup hB4 hn5.below) (by omega) (by have := hB4.size; have := hn5.size; omega)
  have b6 := hp6.old (blk_up hn5.below (hp4'.old (blk_up hn3.below hn2.blk) (by omega))) (by omega)
  have b9 := hp6.old (blk_up hn5.below hp4'.blk) (by omega)
  have b10 := hp6.blk
  clear hn2 hn3 hp4' hn5 hp6 hB4
  (repeat' (first | (refine wl_add rfl rfl rfl rfl rfl rfl (by omega) (by omega) (run_l tabOk ?_); conv => whnf) | (refine wl_sub rfl rfl rfl rfl rfl rfl (by omega) (by omega) (run_l tabOk ?_); conv => whnf) | (refine wl_cvA tabOk rfl rfl rfl (by simp only [inK]; omega) rfl rfl rfl (run_l tabOk ?_); conv => whnf) | (refine wl_cvB tabOk rfl rfl rfl rfl rfl rfl (run_l tabOk ?_); conv => whnf) | (refine wl_rem rfl rfl rfl rfl rfl rfl (by omega) (by omega) (fun r hr hr0 hr1 hr2 => run_l tabOk ?_); conv => whnf) | (refine wl_quo rfl rfl rfl rfl rfl rfl (by omega) (by omega) (by simp only [inK]; omega) (run_l tabOk ?_); conv => whnf) | (refine wl_mul rfl rfl rfl rfl rfl rfl (by omega) (by omega) (run_l tabOk ?_); conv => whnf) | (refine gs_dt (by first | assumption | omega) ?_; conv => whnf) | (refine gs_df (by first | assumption | omega) ?_; conv => whnf) | (refine gs_t (by assumption) ?_; conv => whnf) | (refine gs_f (by assumption) ?_; conv => whnf) | (refine gs_d (fun hg => ?_) (fun hg => ?_) <;> conv => whnf) | (refine gs_n (fun hg => ?_) (fun hg => ?_) <;> conv => whnf) | (refine gs_nb (fun hg => ?_) (fun hg => ?_) <;> conv => whnf) | (refine gs_b (fun hg => ?_) (fun hg => ?_) <;> conv => whnf) | refine fin1 rfl rfl ?_))
  refine wl_S (off := 1) (v := .int .i64 1) tabOk b10 rfl rfl rfl rfl rfl rfl (by simp) rfl rfl ?_
  intro w7 hp7
  refine run_l tabOk ?_
  conv => whnf
  have hB6 : Below w1.heap.size w1 w7 := hp7.below hB6 (by omega) hB6.size
  have b6 := hp7.old b6 (by omega)
  have b9 := hp7.old b9 (by omega)
  have b10 := hp7.blk
  clear hp7
  (repeat' (first | (refine wl_add rfl rfl rfl rfl rfl rfl (by omega) (by omega) (run_l tabOk ?_); conv => whnf) | (refine wl_sub rfl rfl rfl rfl rfl rfl (by omega) (by omega) (run_l tabOk ?_); conv => whnf) | (refine wl_cvA tabOk rfl rfl rfl (by simp only [inK]; omega) rfl rfl rfl (run_l tabOk ?_); conv => whnf) | (refine wl_cvB tabOk rfl rfl rfl rfl rfl rfl (run_l tabOk ?_); conv => whnf) | (refine wl_rem rfl rfl rfl rfl rfl rfl (by omega) (by omega) (fun r hr hr0 hr1 hr2 => run_l tabOk ?_); conv => whnf) | (refine wl_quo rfl rfl rfl rfl rfl rfl (by omega) (by omega) (by simp only [inK]; omega) (run_l tabOk ?_); conv => whnf) | (refine wl_mul rfl rfl rfl rfl rfl rfl (by omega) (by omega) (run_l tabOk ?_); conv => whnf) | (refine gs_dt (by first | assumption | omega) ?_; conv => whnf) | (refine gs_df (by first | assumption | omega) ?_; conv => whnf) | (refine gs_t (by assumption) ?_; conv => whnf) | (refine gs_f (by assumption) ?_; conv => whnf) | (refine gs_d (fun hg => ?_) (fun hg => ?_) <;> conv => whnf) | (refine gs_n (fun hg => ?_) (fun hg => ?_) <;> conv => whnf) | (refine gs_nb (fun hg => ?_) (fun hg => ?_) <;> conv => whnf) | (refine gs_b (fun hg => ?_) (fun hg => ?_) <;> conv => whnf) | refine fin1 rfl rfl ?_))
  refine wl_bs tabOk 66 4 rfl rfl rfl rfl rfl rfl rfl rfl rfl rfl ?_
  intro gy w8 hn8
  refine run_l tabOk ?_
  conv => whnf
  (repeat' (first | (refine wl_add rfl rfl rfl rfl rfl rfl (by omega) (by omega) (run_l tabOk ?_); conv => whnf) | (refine wl_sub rfl rfl rfl rfl rfl rfl (by omega) (by omega) (run_l tabOk ?_); conv => whnf) | (refine wl_cvA tabOk rfl rfl rfl (by simp only [inK]; omega) rfl rfl rfl (run_l tabOk ?_); conv => whnf) | (refine wl_cvB tabOk rfl rfl rfl rfl rfl rfl (run_l tabOk ?_); conv => whnf) | (refine wl_rem rfl rfl rfl rfl rfl rfl (by omega) (by omega) (fun r hr hr0 hr1 hr2 => run_l tabOk ?_); conv => whnf) | (refine wl_quo rfl rfl rfl rfl rfl rfl (by omega) (by omega) (by simp only [inK]; omega) (run_l tabOk ?_); conv => whnf) | (refine wl_mul rfl rfl rfl rfl rfl rfl (by omega) (by omega) (run_l tabOk ?_); conv => whnf) | (refine gs_dt (by first | assumption | omega) ?_; conv => whnf) | (refine gs_df (by first | assumption | omega) ?_; conv => whnf) | (refine gs_t (by assumption) ?_; conv => whnf) | (refine gs_f (by assumption) ?_; conv => whnf) | (refine gs_d (fun hg => ?_) (fun hg => ?_) <;> conv => whnf) | (refine gs_n (fun hg => ?_) (fun hg => ?_) <;> conv => whnf) | (refine gs_nb (fun hg => ?_) (fun hg => ?_) <;> conv => whnf) | (refine gs_b (fun hg => ?_) (fun hg => ?_) <;> conv => whnf) | refine fin1 rfl rfl ?_))
  refine wl_S (off := 2) (v := .slice (some ⟨gy, 0, none⟩) 1 1) tabOk (blk_up hn8.below b9) rfl rfl rfl rfl rfl rfl (by simp) rfl rfl ?_
  intro w9 hp9
  refine run_l tabOk ?_
  conv => whnf
  have n10y : g10 < gy := by have := hn8.at_; have := blk_lt b10; omega
  have hB9 : Below w1.heap.size w1 w9 := hp9.below (bup hB6 hn8.below) (by omega) (by have := hB6.size; have := hn8.size; omega)
  have b6 := hp9.old (blk_up hn8.below b6) (by omega)
  have b10 : w9.heap[g10]? = some (.cells #[.int .u8 5, .int .i64 (apA true), .int .i64 0, .slice none 0 0] 66 (0, 0)) := hp9.old (blk_up hn8.below b10) (by omega)
  have by_ := hp9.old hn8.blk (by omega)
  have b9 := hp9.blk
  have hgy := blk_lt by_
  clear hp9 hn8 hB6
  (repeat' (first | (refine wl_add rfl rfl rfl rfl rfl rfl (by omega) (by omega) (run_l tabOk ?_); conv => whnf) | (refine wl_sub rfl rfl rfl rfl rfl rfl (by omega) (by omega) (run_l tabOk ?_); conv => whnf) | (refine wl_cvA tabOk rfl rfl rfl (by simp only [inK]; omega) rfl rfl rfl (run_l tabOk ?_); conv => whnf) | (refine wl_cvB tabOk rfl rfl rfl rfl rfl rfl (run_l tabOk ?_); conv => whnf) | (refine wl_rem rfl rfl rfl rfl rfl rfl (by omega) (by omega) (fun r hr hr0 hr1 hr2 => run_l tabOk ?_); conv => whnf) | (refine wl_quo rfl rfl rfl rfl rfl rfl (by omega) (by omega) (by simp only [inK]; omega) (run_l tabOk ?_); conv => whnf) | (refine wl_mul rfl rfl rfl rfl rfl rfl (by omega) (by omega) (run_l tabOk ?_); conv => whnf) | (refine gs_dt (by first | assumption | omega) ?_; conv => whnf) | (refine gs_df (by first | assumption | omega) ?_; conv => whnf) | (refine gs_t (by assumption) ?_; conv => whnf) | (refine gs_f (by assumption) ?_; conv => whnf) | (refine gs_d (fun hg => ?_) (fun hg => ?_) <;> conv => whnf) | (refine gs_n (fun hg => ?_) (fun hg => ?_) <;> conv => whnf) | (refine gs_nb (fun hg => ?_) (fun hg => ?_) <;> conv => whnf) | (refine gs_b (fun hg => ?_) (fun hg => ?_) <;> conv => whnf) | refine fin1 rfl rfl ?_))
  refine lp_loop tabOk (X := Nat × Value) (fun x => [(2, .bool true), (7, .int .i64 p), (8, .int .i64 n), (9, .pointer (some ⟨g9, 0, none⟩)), (10, .pointer (some ⟨g10, 0, none⟩)), (11, .int .i64 x.1)])
    (fun x wr => x.1 ≤ p ∧ wr.heap[g6]? = some (.cells #[.bool true, .int .i64 10, x.2] 71 (0, 0)) ∧ wr.heap[g9]? = some (.cells #[.int .i64 30, .slice (some ⟨g6, 0, none⟩) 1 1, .slice (some ⟨gy, 0, none⟩) 1 1] 54 (0, 0))
      ∧ wr.heap[g10]? = some (.cells #[.int .u8 5, .int .i64 (apA true), .int .i64 0, .slice none 0 0] 66 (0, 0)) ∧ wr.heap[gy]? = some (.cells #[.int .u8 1, .int .i64 0, .int .i64 0, .slice none 0 0] 66 (0, 0)) ∧ GInts w9.heap.size wr x.2 (apArgs 11 x.1) ∧ Below w1.heap.size w1 wr ∧ w9.heap.size ≤ wr.heap.size)
    (fun x => p - x.1) (0, .slice none 0 0) ⟨rfl, rfl, rfl, rfl, rfl, rfl, trivial⟩ ⟨by simp, b6, b9, b10, by_, GRow.nil .., hB9, Nat.le_refl _⟩ ?_
  clear b6 b9 b10 by_ hB9
  rintro ⟨i, vp⟩ G wr ⟨hi, b6, b9, b10, by_, hvp, hB, hsz⟩
  simp only at hi b6 b9 b10 by_ hvp hB hsz
  conv => whnf
  have hlt := hvp.olt
  by_cases hip : i < p
  · have hiq : ((i, vp) : Nat × Value).fst < p := hip
    have hii : ((i : Nat) : Int) < (p : Nat) := by omega
    obtain ⟨⟨flat, hown, hel⟩, _, _⟩ := id hvp
    have kp : ∀ (k : Nat) (o : Obj), wr.heap[k]? = some o → k < w9.heap.size → ∀ w', Gw wr vp.ownBlock w' → w'.heap[k]? = some o := fun k o hk hkn w' hw' => (hw'.block k (blk_lt hk) (fun e => by have := (hlt k e.symm).1; omega)).trans hk
    have hk6 := kp g6 _ b6 (by omega)
    have hk9 := kp g9 _ b9 (by omega)
    have hk10 := kp g10 _ b10 (by omega)
    have hky := kp gy _ by_ hgy
    have hal := apArgs_len 11 i
    (repeat' (first | (refine wl_add rfl rfl rfl rfl rfl rfl (by omega) (by omega) (run_l tabOk ?_); conv => whnf) | (refine wl_sub rfl rfl rfl rfl rfl rfl (by omega) (by omega) (run_l tabOk ?_); conv => whnf) | (refine wl_cvA tabOk rfl rfl rfl (by simp only [inK]; omega) rfl rfl rfl (run_l tabOk ?_); conv => whnf) | (refine wl_cvB tabOk rfl rfl rfl rfl rfl rfl (run_l tabOk ?_); conv => whnf) | (refine wl_rem rfl rfl rfl rfl rfl rfl (by omega) (by omega) (fun r hr hr0 hr1 hr2 => run_l tabOk ?_); conv => whnf) | (refine wl_quo rfl rfl rfl rfl rfl rfl (by omega) (by omega) (by simp only [inK]; omega) (run_l tabOk ?_); conv => whnf) | (refine wl_mul rfl rfl rfl rfl rfl rfl (by omega) (by omega) (run_l tabOk ?_); conv => whnf) | (refine gs_dt (by first | assumption | omega) ?_; conv => whnf) | (refine gs_df (by first | assumption | omega) ?_; conv => whnf) | (refine gs_t (by assumption) ?_; conv => whnf) | (refine gs_f (by assumption) ?_; conv => whnf) | (refine gs_d (fun hg => ?_) (fun hg => ?_) <;> conv => whnf) | (refine gs_n (fun hg => ?_) (fun hg => ?_) <;> conv => whnf) | (refine gs_nb (fun hg => ?_) (fun hg => ?_) <;> conv => whnf) | (refine gs_b (fun hg => ?_) (fun hg => ?_) <;> conv => whnf) | refine fin1 rfl rfl ?_))
    refine wc_qx [0, 1, 2, 3, 4, 5, 6, 7, 8] 2 11 (stable_Gw _ (vp.ownBlock)) tabOk mixed (by kernel_rfl) (grown_refl _ _) ?_; (conv => whnf)
    (repeat' (first | (refine wq_LgC tabOk hk9 rfl rfl rfl rfl rfl rfl rfl (run_q tabOk ?_); conv => whnf) | (refine wq_LgC tabOk hk6 rfl rfl rfl rfl rfl rfl rfl (run_q tabOk ?_); conv => whnf) | (refine wq_X tabOk 71 3 rfl rfl rfl rfl rfl rfl rfl (by omega) (by omega) (run_q tabOk ?_); conv => whnf) | (refine wq_add rfl rfl rfl rfl rfl rfl (by omega) (by omega) (run_q tabOk ?_); conv => whnf) | (refine wq_sub rfl rfl rfl rfl rfl rfl (by omega) (by omega) (run_q tabOk ?_); conv => whnf) | (refine wq_cvA tabOk rfl rfl rfl (by simp only [inK]; omega) rfl rfl rfl (run_q tabOk ?_); conv => whnf) | (refine wq_cvB tabOk rfl rfl rfl rfl rfl rfl (run_q tabOk ?_); conv => whnf) | (refine wq_rem rfl rfl rfl rfl rfl rfl (by omega) (by omega) (fun r hr hr0 hr1 hr2 => run_q tabOk ?_); conv => whnf) | (refine wq_quo rfl rfl rfl rfl rfl rfl (by omega) (by omega) (by simp only [inK]; omega) (run_q tabOk ?_); conv => whnf) | (refine wq_mul rfl rfl rfl rfl rfl rfl (by omega) (by omega) (run_q tabOk ?_); conv => whnf) | (refine gs_dt (by first | assumption | omega) ?_; conv => whnf) | (refine gs_df (by first | assumption | omega) ?_; conv => whnf) | (refine gs_t (by assumption) ?_; conv => whnf) | (refine gs_f (by assumption) ?_; conv => whnf) | (refine gs_d (fun hg => ?_) (fun hg => ?_) <;> conv => whnf) | (refine gs_n (fun hg => ?_) (fun hg => ?_) <;> conv => whnf) | (refine gs_nb (fun hg => ?_) (fun hg => ?_) <;> conv => whnf) | (refine gs_b (fun hg => ?_) (fun hg => ?_) <;> conv => whnf)))
    intro u1 hu1 hbu1
    conv => whnf
    refine ⟨?_, trivial⟩
    conv => whnf
    refine wb_a (wa_bs tabOk 3 1 rfl rfl rfl rfl rfl rfl rfl rfl rfl ?_)
    intro gn u2 hn2
    refine ⟨grown_trans hu1 (grown_of hn2.below), fun u3 hbu3 hu3 => ?_⟩
    conv => whnf
    refine ⟨?_, trivial⟩
    conv => whnf
    have hB73 := bup hbu1 (bup hn2.below hbu3)
    have hown3 := hown.kept (grown_of hB73) (Classical.em _)
    refine wb_a (wa_ap tabOk 3 1 8 hown3 (blk_up hbu3 hn2.blk) rfl rfl rfl rfl rfl rfl rfl rfl rfl rfl (by simp) (by simp [Value.oneCell']) (by omega) (by omega) (by have := hB73.size; omega) ?_)
    intro D dc u4 hown4 hgr4 hob4
    refine ⟨grown_trans hu3 hgr4, fun u5 hbu5 hu5 => ?_⟩
    conv => whnf
    (repeat' (first | (refine wl_X tabOk 71 3 rfl rfl rfl rfl rfl rfl rfl (by omega) (by omega) (run_l tabOk ?_); conv => whnf) | (refine wl_add rfl rfl rfl rfl rfl rfl (by omega) (by omega) (run_l tabOk ?_); conv => whnf) | (refine wl_sub rfl rfl rfl rfl rfl rfl (by omega) (by omega) (run_l tabOk ?_); conv => whnf) | (refine wl_cvA tabOk rfl rfl rfl (by simp only [inK]; omega) rfl rfl rfl (run_l tabOk ?_); conv => whnf) | (refine wl_cvB tabOk rfl rfl rfl rfl rfl rfl (run_l tabOk ?_); conv => whnf) | (refine wl_rem rfl rfl rfl rfl rfl rfl (by omega) (by omega) (fun r hr hr0 hr1 hr2 => run_l tabOk ?_); conv => whnf) | (refine wl_quo rfl rfl rfl rfl rfl rfl (by omega) (by omega) (by simp only [inK]; omega) (run_l tabOk ?_); conv => whnf) | (refine wl_mul rfl rfl rfl rfl rfl rfl (by omega) (by omega) (run_l tabOk ?_); conv => whnf) | (refine gs_dt (by first | assumption | omega) ?_; conv => whnf) | (refine gs_df (by first | assumption | omega) ?_; conv => whnf) | (refine gs_t (by assumption) ?_; conv => whnf) | (refine gs_f (by assumption) ?_; conv => whnf) | (refine gs_d (fun hg => ?_) (fun hg => ?_) <;> conv => whnf) | (refine gs_n (fun hg => ?_) (fun hg => ?_) <;> conv => whnf) | (refine gs_nb (fun hg => ?_) (fun hg => ?_) <;> conv => whnf) | (refine gs_b (fun hg => ?_) (fun hg => ?_) <;> conv => whnf) | refine fin1 rfl rfl ?_))
    have hrow3 : GInts w9.heap.size u3 vp (apArgs 11 i) := hvp.below hB73
    have hrow5 := (gints_push hrow3 (fun w' _ => ⟨(hel wr (fun _ _ => rfl)).1, (hel wr (fun _ _ => rfl)).2⟩) hown4 hgr4 hob4 (y := 11 + ((i : Nat) : Int)) (by omega)).below hbu5
    rw [← apArgs_next] at hrow5
    refine wl_S (off := 2) (v := .slice D ((apArgs 11 i).length + 1) dc) tabOk (hk6 u5 hu5) rfl rfl rfl rfl rfl rfl (by simp) rfl rfl ?_
    intro u6 hp6
    refine run_l tabOk ?_
    conv => whnf
    have hgr5 : wr.grownBy u5 vp.ownBlock := hu5
    have hB6 := below_push hB hg6 (fun k hk => ⟨by have := (hlt k hk).1; have := hB.size; have := hgy; omega, (hlt k hk).2⟩) hgr5 hp6
    (repeat' (first | (refine wl_add rfl rfl rfl rfl rfl rfl (by omega) (by omega) (run_l tabOk ?_); conv => whnf) | (refine wl_sub rfl rfl rfl rfl rfl rfl (by omega) (by omega) (run_l tabOk ?_); conv => whnf) | (refine wl_cvA tabOk rfl rfl rfl (by simp only [inK]; omega) rfl rfl rfl (run_l tabOk ?_); conv => whnf) | (refine wl_cvB tabOk rfl rfl rfl rfl rfl rfl (run_l tabOk ?_); conv => whnf) | (refine wl_rem rfl rfl rfl rfl rfl rfl (by omega) (by omega) (fun r hr hr0 hr1 hr2 => run_l tabOk ?_); conv => whnf) | (refine wl_quo rfl rfl rfl rfl rfl rfl (by omega) (by omega) (by simp only [inK]; omega) (run_l tabOk ?_); conv => whnf) | (refine wl_mul rfl rfl rfl rfl rfl rfl (by omega) (by omega) (run_l tabOk ?_); conv => whnf) | (refine gs_dt (by first | assumption | omega) ?_; conv => whnf) | (refine gs_df (by first | assumption | omega) ?_; conv => whnf) | (refine gs_t (by assumption) ?_; conv => whnf) | (refine gs_f (by assumption) ?_; conv => whnf) | (refine gs_d (fun hg => ?_) (fun hg => ?_) <;> conv => whnf) | (refine gs_n (fun hg => ?_) (fun hg => ?_) <;> conv => whnf) | (refine gs_nb (fun hg => ?_) (fun hg => ?_) <;> conv => whnf) | (refine gs_b (fun hg => ?_) (fun hg => ?_) <;> conv => whnf) | refine fin1 rfl rfl ?_))
    exact ⟨(i + 1, .slice D ((apArgs 11 i).length + 1) dc), ⟨rfl, rfl, rfl, rfl, rfl, rfl, trivial⟩, ⟨by simp only; omega, hp6.blk, hp6.old (hk9 u5 hu5) (by omega), hp6.old (hk10 u5 hu5) (by omega), hp6.old (hky u5 hu5) (by omega), hrow5.other hp6.grown (by simp) (fun k hk e => by have := (hrow5.olt k hk).1; omega), hB6, by rw [hp6.size]; have := hgr5.size; omega⟩, by simp only; omega⟩
  · have hip' : i = p := by omega
    subst hip'
    have hii : ¬ ((i : Nat) : Int) < (i : Nat) := by omega
    obtain ⟨Av, cv, hvs, _, _⟩ := hvp.row
    have hA : ∃ O, Ap w1.heap.size g9 g10 (apA true) O wr (.slice (some ⟨g6, 0, none⟩) 1 1) (.slice (some ⟨gy, 0, none⟩) 1 1) (.slice none 0 0) (apCells i 0) vp.ownBlock.toList (apCons 0) (apArgs 2 0) := by
      have hbb : ∀ b ∈ vp.ownBlock.toList, w9.heap.size ≤ b ∧ b < wr.heap.size := fun b hb => hlt b (mem_own hb)
      refine ⟨fun b => if b = g9 then 0 else if b = g10 then 1 else if b = g6 then 2 else if b = gy then 4 else 3, ⟨⟨_, ownBlk9 (size := 3) (n := 1) b6 hg6 (by decide) rfl, fun w' hw' => Elems.one rfl ?_⟩, fun b hb => ?_, fun b hb e => ?_⟩, fun k hk => ?_, fun b hb => ?_, ⟨⟨_, ownBlk9 (size := 4) (n := 1) by_ (by omega) (by decide) rfl, fun w' _ => Elems.one rfl (dCon_nil _ 1 0 0 (by decide) (by decide) (by decide))⟩, by simp, by simp⟩, fun k hk => ?_, GRow.nil .., fun k hk => ?_, b9, by simp, b10, by simp; omega⟩
      · rw [hvs] at hvp hw' ⊢
        exact dCell_of hvp true 10 (by decide) w' hw'
      · have := hbb b hb
        have := hB.size
        omega
      · have e : some b = some g6 := e
        injection e with e
        have := hbb b hb
        omega
      · have hk : some g6 = some k := hk
        injection hk with hk
        subst hk
        show (if g6 = g9 then 0 else if g6 = g10 then 1 else if g6 = g6 then 2 else if g6 = gy then 4 else 3) = 2
        rw [if_neg (by omega), if_neg (by omega), if_pos rfl]
      · have := hbb b hb
        show (if b = g9 then 0 else if b = g10 then 1 else if b = g6 then 2 else if b = gy then 4 else 3) = 3
        rw [if_neg (by omega), if_neg (by omega), if_neg (by omega), if_neg (by omega)]
      · have hk : some gy = some k := hk
        injection hk with hk
        subst hk
        show (if gy = g9 then 0 else if gy = g10 then 1 else if gy = g6 then 2 else if gy = gy then 4 else 3) = 4
        rw [if_neg (by omega), if_neg (by omega), if_neg (by omega), if_pos rfl]
      · cases hk
    clear b6 b9 b10 by_ hlt
    (repeat' (first | (refine wl_add rfl rfl rfl rfl rfl rfl (by omega) (by omega) (run_l tabOk ?_); conv => whnf) | (refine wl_sub rfl rfl rfl rfl rfl rfl (by omega) (by omega) (run_l tabOk ?_); conv => whnf) | (refine wl_cvA tabOk rfl rfl rfl (by simp only [inK]; omega) rfl rfl rfl (run_l tabOk ?_); conv => whnf) | (refine wl_cvB tabOk rfl rfl rfl rfl rfl rfl (run_l tabOk ?_); conv => whnf) | (refine wl_rem rfl rfl rfl rfl rfl rfl (by omega) (by omega) (fun r hr hr0 hr1 hr2 => run_l tabOk ?_); conv => whnf) | (refine wl_quo rfl rfl rfl rfl rfl rfl (by omega) (by omega) (by simp only [inK]; omega) (run_l tabOk ?_); conv => whnf) | (refine wl_mul rfl rfl rfl rfl rfl rfl (by omega) (by omega) (run_l tabOk ?_); conv => whnf) | (refine gs_dt (by first | assumption | omega) ?_; conv => whnf) | (refine gs_df (by first | assumption | omega) ?_; conv => whnf) | (refine gs_t (by assumption) ?_; conv => whnf) | (refine gs_f (by assumption) ?_; conv => whnf) | (refine gs_d (fun hg => ?_) (fun hg => ?_) <;> conv => whnf) | (refine gs_n (fun hg => ?_) (fun hg => ?_) <;> conv => whnf) | (refine gs_nb (fun hg => ?_) (fun hg => ?_) <;> conv => whnf) | (refine gs_b (fun hg => ?_) (fun hg => ?_) <;> conv => whnf) | refine fin1 rfl rfl ?_))
    refine lp_loop tabOk (X := Nat × Value × Value × Value) (fun x => [(2, .bool true), (7, .int .i64 i), (8, .int .i64 n), (9, .pointer (some ⟨g9, 0, none⟩)), (10, .pointer (some ⟨g10, 0, none⟩)), (12, .int .i64 x.1)])
      (fun x wr => x.1 ≤ n ∧ (∃ O, Ap w1.heap.size g9 g10 (apA true) O wr x.2.1 x.2.2.1 x.2.2.2 (apCells i x.1) vp.ownBlock.toList (apCons x.1) (apArgs 2 x.1)) ∧ Below w1.heap.size w1 wr)
      (fun x => n - x.1) (0, .slice (some ⟨g6, 0, none⟩) 1 1, .slice (some ⟨gy, 0, none⟩) 1 1, .slice none 0 0) ⟨rfl, rfl, rfl, rfl, rfl, rfl, trivial⟩ ⟨by simp, hA, hB⟩ ?_
    clear hA hB hsz hvp
    rintro ⟨j, vx, vy, vc⟩ G wr ⟨hj, ⟨O, hA⟩, hB⟩
    simp only at hj hA hB
    conv => whnf
    by_cases hjn : j < n
    · have hjq : ((j, vx, vy, vc) : Nat × Value × Value × Value).fst < n := hjn
      have hjj : ((j : Nat) : Int) < (n : Nat) := by omega
      have lx := apCells_len i j
      have ly := apCons_len j
      have lz := apArgs_len 2 j
      (repeat' (first | (refine wl_Lg tabOk hA.b9 rfl rfl rfl rfl rfl rfl rfl (run_l tabOk ?_); conv => whnf) | (refine wl_add rfl rfl rfl rfl rfl rfl (by omega) (by omega) (run_l tabOk ?_); conv => whnf) | (refine wl_sub rfl rfl rfl rfl rfl rfl (by omega) (by omega) (run_l tabOk ?_); conv => whnf) | (refine wl_cvA tabOk rfl rfl rfl (by simp only [inK]; omega) rfl rfl rfl (run_l tabOk ?_); conv => whnf) | (refine wl_cvB tabOk rfl rfl rfl rfl rfl rfl (run_l tabOk ?_); conv => whnf) | (refine wl_rem rfl rfl rfl rfl rfl rfl (by omega) (by omega) (fun r hr hr0 hr1 hr2 => run_l tabOk ?_); conv => whnf) | (refine wl_quo rfl rfl rfl rfl rfl rfl (by omega) (by omega) (by simp only [inK]; omega) (run_l tabOk ?_); conv => whnf) | (refine wl_mul rfl rfl rfl rfl rfl rfl (by omega) (by omega) (run_l tabOk ?_); conv => whnf) | (refine gs_dt (by first | assumption | omega) ?_; conv => whnf) | (refine gs_df (by first | assumption | omega) ?_; conv => whnf) | (refine gs_t (by assumption) ?_; conv => whnf) | (refine gs_f (by assumption) ?_; conv => whnf) | (refine gs_d (fun hg => ?_) (fun hg => ?_) <;> conv => whnf) | (refine gs_n (fun hg => ?_) (fun hg => ?_) <;> conv => whnf) | (refine gs_nb (fun hg => ?_) (fun hg => ?_) <;> conv => whnf) | (refine gs_b (fun hg => ?_) (fun hg => ?_) <;> conv => whnf) | refine fin1 rfl rfl ?_))
      refine wl_bs tabOk 71 3 rfl rfl rfl rfl rfl rfl rfl rfl rfl rfl ?_
      intro gm ua hnm
      refine run_l tabOk ?_
      conv => whnf
      have hAa := hA.up hnm.below
      have hBa := bup hB hnm.below
      obtain ⟨⟨fy, hown, hel⟩, _, _⟩ := id hAa.x
      refine wl_ap tabOk 71 3 40 hown hnm.blk rfl rfl rfl rfl rfl rfl rfl rfl rfl rfl rfl rfl (by simp [Value.oneCell']) (by omega) (by omega) hBa.size ?_
      intro E ec ub hown2 hgm hob
      have b2 := (hgm.block g9 (blk_lt hAa.b9) (fun e => by have := hAa.xo g9 e.symm; have := hAa.o9; omega)).trans hAa.b9
      refine run_l tabOk ?_
      conv => whnf
      refine wl_S (off := 1) (v := .slice E ((apCells i j).length + 1) ec) tabOk b2 rfl rfl rfl rfl rfl rfl (by simp) rfl rfl ?_
      intro uc hpc
      refine run_l tabOk ?_
      conv => whnf
      have hBc := below_push hBa (by omega : w1.heap.size ≤ g9) hAa.x.olt hgm hpc
      have hAc := hAa.pushX (x := ⟨false, 20 + ((j : Nat) : Int), []⟩) hel hown2 hgm hob hpc rfl (fun w' => dCell_nil _ _ _ (by show (-9223372036854775808 : Int) ≤ _; omega) (by show _ ≤ (9223372036854775807 : Int); omega))
      rw [← apCells_next] at hAc
      clear hpc b2 hob hgm hown2 hel hown hAa hBa hnm hA hB
      have hA := hAc
      have hB := hBc
      clear hAc hBc
      (repeat' (first | (refine wl_Lg tabOk hA.b9 rfl rfl rfl rfl rfl rfl rfl (run_l tabOk ?_); conv => whnf) | (refine wl_add rfl rfl rfl rfl rfl rfl (by omega) (by omega) (run_l tabOk ?_); conv => whnf) | (refine wl_sub rfl rfl rfl rfl rfl rfl (by omega) (by omega) (run_l tabOk ?_); conv => whnf) | (refine wl_cvA tabOk rfl rfl rfl (by simp only [inK]; omega) rfl rfl rfl (run_l tabOk ?_); conv => whnf) | (refine wl_cvB tabOk rfl rfl rfl rfl rfl rfl (run_l tabOk ?_); conv => whnf) | (refine wl_rem rfl rfl rfl rfl rfl rfl (by omega) (by omega) (fun r hr hr0 hr1 hr2 => run_l tabOk ?_); conv => whnf) | (refine wl_quo rfl rfl rfl rfl rfl rfl (by omega) (by omega) (by simp only [inK]; omega) (run_l tabOk ?_); conv => whnf) | (refine wl_mul rfl rfl rfl rfl rfl rfl (by omega) (by omega) (run_l tabOk ?_); conv => whnf) | (refine gs_dt (by first | assumption | omega) ?_; conv => whnf) | (refine gs_df (by first | assumption | omega) ?_; conv => whnf) | (refine gs_t (by assumption) ?_; conv => whnf) | (refine gs_f (by assumption) ?_; conv => whnf) | (refine gs_d (fun hg => ?_) (fun hg => ?_) <;> conv => whnf) | (refine gs_n (fun hg => ?_) (fun hg => ?_) <;> conv => whnf) | (refine gs_nb (fun hg => ?_) (fun hg => ?_) <;> conv => whnf) | (refine gs_b (fun hg => ?_) (fun hg => ?_) <;> conv => whnf) | refine fin1 rfl rfl ?_))
      refine wl_bs tabOk 66 4 rfl rfl rfl rfl rfl rfl rfl rfl rfl rfl ?_
      intro gm ua hnm
      refine run_l tabOk ?_
      conv => whnf
      have hAa := hA.up hnm.below
      have hBa := bup hB hnm.below
      obtain ⟨⟨fy, hown, hel⟩, _, _⟩ := id hAa.y
      refine wl_ap tabOk 66 4 48 hown hnm.blk rfl rfl rfl rfl rfl rfl rfl rfl rfl rfl rfl rfl (by simp [Value.oneCell']) (by omega) (by omega) hBa.size ?_
      intro E ec ub hown2 hgm hob
      have b2 := (hgm.block g9 (blk_lt hAa.b9) (fun e => by have := hAa.yo g9 e.symm; have := hAa.o9; omega)).trans hAa.b9
      refine run_l tabOk ?_
      conv => whnf
      refine wl_S (off := 2) (v := .slice E ((apCons j).length + 1) ec) tabOk b2 rfl rfl rfl rfl rfl rfl (by simp) rfl rfl ?_
      intro uc hpc
      refine run_l tabOk ?_
      conv => whnf
      have hBc := below_push hBa (by omega : w1.heap.size ≤ g9) hAa.y.olt hgm hpc
      have hAc := hAa.pushY (y := ⟨1, 2 + ((j : Nat) : Int), 1 + ((j : Nat) : Int), []⟩) hel hown2 hgm hob hpc rfl (fun w' => dCon_nil _ 1 (2 + (j : Int)) (1 + (j : Int)) (by decide) (by omega) (by omega))
      rw [← apCons_next] at hAc
      clear hpc b2 hob hgm hown2 hel hown hAa hBa hnm hA hB
      have hA := hAc
      have hB := hBc
      clear hAc hBc
      (repeat' (first | (refine wl_Lg tabOk hA.b10 rfl rfl rfl rfl rfl rfl rfl (run_l tabOk ?_); conv => whnf) | (refine wl_add rfl rfl rfl rfl rfl rfl (by omega) (by omega) (run_l tabOk ?_); conv => whnf) | (refine wl_sub rfl rfl rfl rfl rfl rfl (by omega) (by omega) (run_l tabOk ?_); conv => whnf) | (refine wl_cvA tabOk rfl rfl rfl (by simp only [inK]; omega) rfl rfl rfl (run_l tabOk ?_); conv => whnf) | (refine wl_cvB tabOk rfl rfl rfl rfl rfl rfl (run_l tabOk ?_); conv => whnf) | (refine wl_rem rfl rfl rfl rfl rfl rfl (by omega) (by omega) (fun r hr hr0 hr1 hr2 => run_l tabOk ?_); conv => whnf) | (refine wl_quo rfl rfl rfl rfl rfl rfl (by omega) (by omega) (by simp only [inK]; omega) (run_l tabOk ?_); conv => whnf) | (refine wl_mul rfl rfl rfl rfl rfl rfl (by omega) (by omega) (run_l tabOk ?_); conv => whnf) | (refine gs_dt (by first | assumption | omega) ?_; conv => whnf) | (refine gs_df (by first | assumption | omega) ?_; conv => whnf) | (refine gs_t (by assumption) ?_; conv => whnf) | (refine gs_f (by assumption) ?_; conv => whnf) | (refine gs_d (fun hg => ?_) (fun hg => ?_) <;> conv => whnf) | (refine gs_n (fun hg => ?_) (fun hg => ?_) <;> conv => whnf) | (refine gs_nb (fun hg => ?_) (fun hg => ?_) <;> conv => whnf) | (refine gs_b (fun hg => ?_) (fun hg => ?_) <;> conv => whnf) | refine fin1 rfl rfl ?_))
      refine wl_bs tabOk 3 1 rfl rfl rfl rfl rfl rfl rfl rfl rfl rfl ?_
      intro gm ua hnm
      refine run_l tabOk ?_
      conv => whnf
      have hAa := hA.up hnm.below
      have hBa := bup hB hnm.below
      obtain ⟨⟨fy, hown, hel⟩, _, _⟩ := id hAa.c
      refine wl_ap tabOk 3 1 8 hown hnm.blk rfl rfl rfl rfl rfl rfl rfl rfl rfl rfl rfl rfl (by simp [Value.oneCell']) (by omega) (by omega) hBa.size ?_
      intro E ec ub hown2 hgm hob
      have b2 := (hgm.block g10 (blk_lt hAa.b10) (fun e => by have := hAa.co g10 e.symm; have := hAa.o10; omega)).trans hAa.b10
      refine run_l tabOk ?_
      conv => whnf
      refine wl_S (off := 3) (v := .slice E ((apArgs 2 j).length + 1) ec) tabOk b2 rfl rfl rfl rfl rfl rfl (by simp) rfl rfl ?_
      intro uc hpc
      refine run_l tabOk ?_
      conv => whnf
      have hBc := below_push hBa (by omega : w1.heap.size ≤ g10) hAa.c.olt hgm hpc
      have hAc := hAa.pushC (z := 2 + ((j : Nat) : Int)) hel hown2 hgm hob hpc (by omega)
      rw [← apArgs_next] at hAc
      clear hpc b2 hob hgm hown2 hel hown hAa hBa hnm hA hB
      have hA := hAc
      have hB := hBc
      clear hAc hBc
      (repeat' (first | (refine wl_add rfl rfl rfl rfl rfl rfl (by omega) (by omega) (run_l tabOk ?_); conv => whnf) | (refine wl_sub rfl rfl rfl rfl rfl rfl (by omega) (by omega) (run_l tabOk ?_); conv => whnf) | (refine wl_cvA tabOk rfl rfl rfl (by simp only [inK]; omega) rfl rfl rfl (run_l tabOk ?_); conv => whnf) | (refine wl_cvB tabOk rfl rfl rfl rfl rfl rfl (run_l tabOk ?_); conv => whnf) | (refine wl_rem rfl rfl rfl rfl rfl rfl (by omega) (by omega) (fun r hr hr0 hr1 hr2 => run_l tabOk ?_); conv => whnf) | (refine wl_quo rfl rfl rfl rfl rfl rfl (by omega) (by omega) (by simp only [inK]; omega) (run_l tabOk ?_); conv => whnf) | (refine wl_mul rfl rfl rfl rfl rfl rfl (by omega) (by omega) (run_l tabOk ?_); conv => whnf) | (refine gs_dt (by first | assumption | omega) ?_; conv => whnf) | (refine gs_df (by first | assumption | omega) ?_; conv => whnf) | (refine gs_t (by assumption) ?_; conv => whnf) | (refine gs_f (by assumption) ?_; conv => whnf) | (refine gs_d (fun hg => ?_) (fun hg => ?_) <;> conv => whnf) | (refine gs_n (fun hg => ?_) (fun hg => ?_) <;> conv => whnf) | (refine gs_nb (fun hg => ?_) (fun hg => ?_) <;> conv => whnf) | (refine gs_b (fun hg => ?_) (fun hg => ?_) <;> conv => whnf) | refine fin1 rfl rfl ?_))
      exact ⟨(j + 1, _, _, _), ⟨rfl, rfl, rfl, rfl, rfl, rfl, trivial⟩, ⟨by simp only; omega, ⟨_, hA⟩, hB⟩, by simp only; omega⟩
    · have hjn' : j = n := by omega
      subst hjn'
      have hjj : ¬ ((j : Nat) : Int) < (j : Nat) := by omega
      have lx := apCells_len i j
      have ly := apCons_len j
      have lz := apArgs_len 2 j
      (repeat' (first | (refine wl_Lg tabOk hA.b9 rfl rfl rfl rfl rfl rfl rfl (run_l tabOk ?_); conv => whnf) | (refine wl_add rfl rfl rfl rfl rfl rfl (by omega) (by omega) (run_l tabOk ?_); conv => whnf) | (refine wl_sub rfl rfl rfl rfl rfl rfl (by omega) (by omega) (run_l tabOk ?_); conv => whnf) | (refine wl_cvA tabOk rfl rfl rfl (by simp only [inK]; omega) rfl rfl rfl (run_l tabOk ?_); conv => whnf) | (refine wl_cvB tabOk rfl rfl rfl rfl rfl rfl (run_l tabOk ?_); conv => whnf) | (refine wl_rem rfl rfl rfl rfl rfl rfl (by omega) (by omega) (fun r hr hr0 hr1 hr2 => run_l tabOk ?_); conv => whnf) | (refine wl_quo rfl rfl rfl rfl rfl rfl (by omega) (by omega) (by simp only [inK]; omega) (run_l tabOk ?_); conv => whnf) | (refine wl_mul rfl rfl rfl rfl rfl rfl (by omega) (by omega) (run_l tabOk ?_); conv => whnf) | (refine gs_dt (by first | assumption | omega) ?_; conv => whnf) | (refine gs_df (by first | assumption | omega) ?_; conv => whnf) | (refine gs_t (by assumption) ?_; conv => whnf) | (refine gs_f (by assumption) ?_; conv => whnf) | (refine gs_d (fun hg => ?_) (fun hg => ?_) <;> conv => whnf) | (refine gs_n (fun hg => ?_) (fun hg => ?_) <;> conv => whnf) | (refine gs_nb (fun hg => ?_) (fun hg => ?_) <;> conv => whnf) | (refine gs_b (fun hg => ?_) (fun hg => ?_) <;> conv => whnf) | refine fin1 rfl rfl ?_))
      refine wl_bs tabOk 71 3 rfl rfl rfl rfl rfl rfl rfl rfl rfl rfl ?_
      intro gm ua hnm
      refine run_l tabOk ?_
      conv => whnf
      have hAa := hA.up hnm.below
      have hBa := bup hB hnm.below
      obtain ⟨⟨fy, hown, hel⟩, _, _⟩ := id hAa.x
      refine wl_ap tabOk 71 3 40 hown hnm.blk rfl rfl rfl rfl rfl rfl rfl rfl rfl rfl rfl rfl (by simp [Value.oneCell']) (by omega) (by omega) hBa.size ?_
      intro E ec ub hown2 hgm hob
      have b2 := (hgm.block g9 (blk_lt hAa.b9) (fun e => by have := hAa.xo g9 e.symm; have := hAa.o9; omega)).trans hAa.b9
      refine run_l tabOk ?_
      conv => whnf
      refine wl_S (off := 1) (v := .slice E ((apCells i j).length + 1) ec) tabOk b2 rfl rfl rfl rfl rfl rfl (by simp) rfl rfl ?_
      intro uc hpc
      refine run_l tabOk ?_
      conv => whnf
      have hBc := below_push hBa (by omega : w1.heap.size ≤ g9) hAa.x.olt hgm hpc
      have hAc := hAa.pushX (x := ⟨false, 29, []⟩) hel hown2 hgm hob hpc rfl (fun w' => dCell_nil _ _ _ (by show (-9223372036854775808 : Int) ≤ _; omega) (by show _ ≤ (9223372036854775807 : Int); omega))
      clear hpc b2 hob hgm hown2 hel hown hAa hBa hnm hA hB
      have hA := hAc
      have hB := hBc
      clear hAc hBc
      have hxs : apCells i j ++ [⟨false, 29, []⟩] = apXs i j := rfl
      rw [hxs] at hA
      (repeat' (first | (refine wl_Lg tabOk hA.b9 rfl rfl rfl rfl rfl rfl rfl (run_l tabOk ?_); conv => whnf) | (refine wl_Lag tabOk hA.b10 rfl rfl rfl rfl rfl rfl (run_l tabOk ?_); conv => whnf) | (refine wl_add rfl rfl rfl rfl rfl rfl (by omega) (by omega) (run_l tabOk ?_); conv => whnf) | (refine wl_sub rfl rfl rfl rfl rfl rfl (by omega) (by omega) (run_l tabOk ?_); conv => whnf) | (refine wl_cvA tabOk rfl rfl rfl (by simp only [inK]; omega) rfl rfl rfl (run_l tabOk ?_); conv => whnf) | (refine wl_cvB tabOk rfl rfl rfl rfl rfl rfl (run_l tabOk ?_); conv => whnf) | (refine wl_rem rfl rfl rfl rfl rfl rfl (by omega) (by omega) (fun r hr hr0 hr1 hr2 => run_l tabOk ?_); conv => whnf) | (refine wl_quo rfl rfl rfl rfl rfl rfl (by omega) (by omega) (by simp only [inK]; omega) (run_l tabOk ?_); conv => whnf) | (refine wl_mul rfl rfl rfl rfl rfl rfl (by omega) (by omega) (run_l tabOk ?_); conv => whnf) | (refine gs_dt (by first | assumption | omega) ?_; conv => whnf) | (refine gs_df (by first | assumption | omega) ?_; conv => whnf) | (refine gs_t (by assumption) ?_; conv => whnf) | (refine gs_f (by assumption) ?_; conv => whnf) | (refine gs_d (fun hg => ?_) (fun hg => ?_) <;> conv => whnf) | (refine gs_n (fun hg => ?_) (fun hg => ?_) <;> conv => whnf) | (refine gs_nb (fun hg => ?_) (fun hg => ?_) <;> conv => whnf) | (refine gs_b (fun hg => ?_) (fun hg => ?_) <;> conv => whnf) | refine fin1 rfl rfl ?_))
      refine wl_bs tabOk 66 4 rfl rfl rfl rfl rfl rfl rfl rfl rfl rfl ?_
      intro gm ua hnm
      refine run_l tabOk ?_
      conv => whnf
      have hAa := hA.up hnm.below
      have hBa := bup hB hnm.below
      obtain ⟨⟨fy, hown, hel⟩, _, _⟩ := id hAa.y
      refine wl_ap tabOk 66 4 48 hown hnm.blk rfl rfl rfl rfl rfl rfl rfl rfl rfl rfl rfl rfl (by obtain ⟨_, _, hv, _⟩ := hAa.c.row; simp [hv, Value.oneCell']) (by omega) (by omega) hBa.size ?_
      intro E ec ub hown2 hgm hob
      have b2 := (hgm.block g9 (blk_lt hAa.b9) (fun e => by have := hAa.yo g9 e.symm; have := hAa.o9; omega)).trans hAa.b9
      refine run_l tabOk ?_
      conv => whnf
      refine wl_S (off := 2) (v := .slice E ((apCons j).length + 2) ec) tabOk b2 rfl rfl rfl rfl rfl rfl (by simp) rfl rfl ?_
      intro uc hpc
      refine run_l tabOk ?_
      conv => whnf
      have hBc := below_push hBa (by omega : w1.heap.size ≤ g9) hAa.y.olt hgm hpc
      have b9 := hpc.blk
      have x2 := (hAa.x.keepO hgm hAa.yo (fun k hk e => by have := hAa.xo k hk; omega) (fun b hb e => by have := hAa.bo b hb; omega)).other hpc.grown (fun b hb e => by have h1 := hAa.bo b hb; have h2 := hAa.o9; rw [e] at h1; omega) (fun k hk e => by have h1 := hAa.xo k hk; have h2 := hAa.o9; rw [e] at h1; omega)
      have c2 := (hAa.c.keepO hgm hAa.yo (fun k hk e => by have := hAa.co k hk; omega) (by simp)).other hpc.grown (by simp) (fun k hk e => by have h1 := hAa.co k hk; have h2 := hAa.o9; rw [e] at h1; omega)
      obtain ⟨C1, cc1, hvc, hcc, hqc⟩ := c2.row
      obtain ⟨A1, c1, hvx, _, hq1⟩ := x2.row
      have hV := own_after (j := 4) hAa.y.olt hAa.yo hob
      have hown3 := hown2.kept hpc.grown (.inr fun e => by
        have h1 := hV g9 e
        rw [newO_old (blk_lt hAa.b9)] at h1
        have := hAa.o9
        omega)
      have hel3 : Elems 4 dCon uc (fy ++ [.int .u8 5, .int .i64 (apA true), .int .i64 0, vc, .int .u8 1, .int .i64 10, .int .i64 ((j : Int) + 1), .slice none 0 0]) (apYs true j) := by
        have h1 := ((hel uc (by simp)).push (x := (⟨5, apA true, 0, apArgs 2 j⟩ : Con)) (cs := [.int .u8 5, .int .i64 (apA true), .int .i64 0, vc]) rfl ⟨C1, cc1, by rw [hvc], hcc, hqc, (by show (0 : Int) ≤ 5 ∧ (5 : Int) ≤ 255; decide), (by show (-9223372036854775808 : Int) ≤ apA true ∧ apA true ≤ 9223372036854775807; decide), (by show (-9223372036854775808 : Int) ≤ 0 ∧ (0 : Int) ≤ 9223372036854775807; decide)⟩).push (x := (⟨1, 10, (j : Int) + 1, []⟩ : Con)) (cs := [.int .u8 1, .int .i64 10, .int .i64 ((j : Int) + 1), .slice none 0 0]) rfl (dCon_nil _ 1 10 ((j : Int) + 1) (by decide) (by decide) (by omega))
        rw [List.append_assoc, List.append_assoc] at h1
        exact h1
      obtain ⟨A2, c2', hE, _, hq2⟩ := row_of_own hown3 (by rw [apYs_len, apCons_len]) hel3
      rw [hE, hvx] at b9
      clear hAa hA hown hown2 hown3 hel hel3 hgm hob hV hpc hnm b2 x2 c2
      (repeat' (first | (refine wl_Lg tabOk b9 rfl rfl rfl rfl rfl rfl rfl (run_l tabOk ?_); conv => whnf) | (refine wl_Lag tabOk b9 rfl rfl rfl rfl rfl rfl (run_l tabOk ?_); conv => whnf) | (refine wl_add rfl rfl rfl rfl rfl rfl (by omega) (by omega) (run_l tabOk ?_); conv => whnf) | (refine wl_sub rfl rfl rfl rfl rfl rfl (by omega) (by omega) (run_l tabOk ?_); conv => whnf) | (refine wl_cvA tabOk rfl rfl rfl (by simp only [inK]; omega) rfl rfl rfl (run_l tabOk ?_); conv => whnf) | (refine wl_cvB tabOk rfl rfl rfl rfl rfl rfl (run_l tabOk ?_); conv => whnf) | (refine wl_rem rfl rfl rfl rfl rfl rfl (by omega) (by omega) (fun r hr hr0 hr1 hr2 => run_l tabOk ?_); conv => whnf) | (refine wl_quo rfl rfl rfl rfl rfl rfl (by omega) (by omega) (by simp only [inK]; omega) (run_l tabOk ?_); conv => whnf) | (refine wl_mul rfl rfl rfl rfl rfl rfl (by omega) (by omega) (run_l tabOk ?_); conv => whnf) | (refine gs_dt (by first | assumption | omega) ?_; conv => whnf) | (refine gs_df (by first | assumption | omega) ?_; conv => whnf) | (refine gs_t (by assumption) ?_; conv => whnf) | (refine gs_f (by assumption) ?_; conv => whnf) | (refine gs_d (fun hg => ?_) (fun hg => ?_) <;> conv => whnf) | (refine gs_n (fun hg => ?_) (fun hg => ?_) <;> conv => whnf) | (refine gs_nb (fun hg => ?_) (fun hg => ?_) <;> conv => whnf) | (refine gs_b (fun hg => ?_) (fun hg => ?_) <;> conv => whnf) | refine fin1 rfl rfl ?_))
      refine wl_C fn34 (solveLeast 30 (apXs i j) (apYs true j) A1 A2 c1 c2' uc hq1 hq2 (apRight hp4 hn4) (hT.up (bup hB1 hBc))) rfl rfl rfl rfl rfl rfl rfl ?_
      rintro _ ud ⟨M, Ap', cap, q, rfl, hIL, hrr, _, _, hBd⟩
      have hM := hIL.unique (apLeast (res := true) hp4 hn4)
      subst hM
      have hpl := pts_len (apM_sh true i j)
      have hBz := bup hBc hBd
      refine ⟨_, rfl, run_l tabOk ?_⟩
      conv => whnf
      (repeat' (first | (refine wl_add rfl rfl rfl rfl rfl rfl (by omega) (by omega) (run_l tabOk ?_); conv => whnf) | (refine wl_sub rfl rfl rfl rfl rfl rfl (by omega) (by omega) (run_l tabOk ?_); conv => whnf) | (refine wl_cvA tabOk rfl rfl rfl (by simp only [inK]; omega) rfl rfl rfl (run_l tabOk ?_); conv => whnf) | (refine wl_cvB tabOk rfl rfl rfl rfl rfl rfl (run_l tabOk ?_); conv => whnf) | (refine wl_rem rfl rfl rfl rfl rfl rfl (by omega) (by omega) (fun r hr hr0 hr1 hr2 => run_l tabOk ?_); conv => whnf) | (refine wl_quo rfl rfl rfl rfl rfl rfl (by omega) (by omega) (by simp only [inK]; omega) (run_l tabOk ?_); conv => whnf) | (refine wl_mul rfl rfl rfl rfl rfl rfl (by omega) (by omega) (run_l tabOk ?_); conv => whnf) | (refine gs_dt (by first | assumption | omega) ?_; conv => whnf) | (refine gs_df (by first | assumption | omega) ?_; conv => whnf) | (refine gs_t (by assumption) ?_; conv => whnf) | (refine gs_f (by assumption) ?_; conv => whnf) | (refine gs_d (fun hg => ?_) (fun hg => ?_) <;> conv => whnf) | (refine gs_n (fun hg => ?_) (fun hg => ?_) <;> conv => whnf) | (refine gs_nb (fun hg => ?_) (fun hg => ?_) <;> conv => whnf) | (refine gs_b (fun hg => ?_) (fun hg => ?_) <;> conv => whnf) | refine fin1 rfl rfl ?_))
      refine lp_loop tabOk (X := Nat) (fun k => [(2, .bool true), (7, .int .i64 i), (8, .int .i64 j), (13, .slice Ap' 30 cap), (16, .int .i64 k)]) (fun k ws => k ≤ i ∧ Below ud.heap.size ud ws) (fun k => i - k) 0 ⟨rfl, rfl, rfl, rfl, rfl, trivial⟩ ⟨by omega, Below.refl _ _⟩ ?_
      rintro k G ws ⟨hk, hBs⟩
      conv => whnf
      by_cases hki : k < i
      · have hkk : ((k : Nat) : Int) < (i : Nat) := by omega
        obtain ⟨x, ad, D, dc, hx, rfl, f1, hdc, hxr⟩ := rowsE (hrr.up stays_Ints hBs) (11 + (k : Int)).toNat (by omega)
        have hxv : x = if k < j then [1 + (k : Int)] else [] := by
          rw [← hx.out, show (11 + (k : Int)).toNat = 11 + k by omega, pts_at (apM_sh true i j) (by omega)]
          exact apRowP hp4 hn4 hki
        by_cases hkj : k < j
        · have hkj' : ((k : Nat) : Int) < (j : Nat) := by omega
          rw [if_pos hkj] at hxv
          subst hxv
          (repeat' (first | (refine wl_L tabOk rfl rfl rfl rfl rfl rfl f1 (run_l tabOk ?_); conv => whnf) | (refine wl_X tabOk 46 1 rfl rfl rfl rfl rfl rfl rfl (by omega) (by omega) (run_l tabOk ?_); conv => whnf) | (refine wl_add rfl rfl rfl rfl rfl rfl (by omega) (by omega) (run_l tabOk ?_); conv => whnf) | (refine wl_sub rfl rfl rfl rfl rfl rfl (by omega) (by omega) (run_l tabOk ?_); conv => whnf) | (refine wl_cvA tabOk rfl rfl rfl (by simp only [inK]; omega) rfl rfl rfl (run_l tabOk ?_); conv => whnf) | (refine wl_cvB tabOk rfl rfl rfl rfl rfl rfl (run_l tabOk ?_); conv => whnf) | (refine wl_rem rfl rfl rfl rfl rfl rfl (by omega) (by omega) (fun r hr hr0 hr1 hr2 => run_l tabOk ?_); conv => whnf) | (refine wl_quo rfl rfl rfl rfl rfl rfl (by omega) (by omega) (by simp only [inK]; omega) (run_l tabOk ?_); conv => whnf) | (refine wl_mul rfl rfl rfl rfl rfl rfl (by omega) (by omega) (run_l tabOk ?_); conv => whnf) | (refine gs_dt (by first | assumption | omega) ?_; conv => whnf) | (refine gs_df (by first | assumption | omega) ?_; conv => whnf) | (refine gs_t (by assumption) ?_; conv => whnf) | (refine gs_f (by assumption) ?_; conv => whnf) | (refine gs_d (fun hg => ?_) (fun hg => ?_) <;> conv => whnf) | (refine gs_n (fun hg => ?_) (fun hg => ?_) <;> conv => whnf) | (refine gs_nb (fun hg => ?_) (fun hg => ?_) <;> conv => whnf) | (refine gs_b (fun hg => ?_) (fun hg => ?_) <;> conv => whnf) | refine fin1 rfl rfl ?_))
          refine wl_bs tabOk 3 1 rfl rfl rfl rfl rfl rfl rfl rfl rfl rfl ?_
          intro gq ut hnq
          refine run_l tabOk ?_
          conv => whnf
          have hri : RI ut (some ⟨gq, 0, none⟩) [1 + (k : Int)] := row_of_blk hnq.blk (Elems.one rfl ⟨rfl, by show (-9223372036854775808 : Int) ≤ _; omega, by show _ ≤ (9223372036854775807 : Int); omega⟩) (by simp)
          refine wl_C fn39 (refSameInts [1 + (k : Int)] [1 + (k : Int)] D (some ⟨gq, 0, none⟩) dc 1 ut (hxr.out.up (stays_I _) hnq.below) hri) rfl rfl rfl rfl rfl rfl rfl ?_
          rintro _ uv ⟨rfl, hBv⟩
          rw [sameI_refl]
          refine ⟨_, rfl, run_l tabOk ?_⟩
          conv => whnf
          (repeat' (first | (refine wl_add rfl rfl rfl rfl rfl rfl (by omega) (by omega) (run_l tabOk ?_); conv => whnf) | (refine wl_sub rfl rfl rfl rfl rfl rfl (by omega) (by omega) (run_l tabOk ?_); conv => whnf) | (refine wl_cvA tabOk rfl rfl rfl (by simp only [inK]; omega) rfl rfl rfl (run_l tabOk ?_); conv => whnf) | (refine wl_cvB tabOk rfl rfl rfl rfl rfl rfl (run_l tabOk ?_); conv => whnf) | (refine wl_rem rfl rfl rfl rfl rfl rfl (by omega) (by omega) (fun r hr hr0 hr1 hr2 => run_l tabOk ?_); conv => whnf) | (refine wl_quo rfl rfl rfl rfl rfl rfl (by omega) (by omega) (by simp only [inK]; omega) (run_l tabOk ?_); conv => whnf) | (refine wl_mul rfl rfl rfl rfl rfl rfl (by omega) (by omega) (run_l tabOk ?_); conv => whnf) | (refine gs_dt (by first | assumption | omega) ?_; conv => whnf) | (refine gs_df (by first | assumption | omega) ?_; conv => whnf) | (refine gs_t (by assumption) ?_; conv => whnf) | (refine gs_f (by assumption) ?_; conv => whnf) | (refine gs_d (fun hg => ?_) (fun hg => ?_) <;> conv => whnf) | (refine gs_n (fun hg => ?_) (fun hg => ?_) <;> conv => whnf) | (refine gs_nb (fun hg => ?_) (fun hg => ?_) <;> conv => whnf) | (refine gs_b (fun hg => ?_) (fun hg => ?_) <;> conv => whnf) | refine fin1 rfl rfl ?_))
          exact ⟨k + 1, ⟨rfl, rfl, rfl, rfl, rfl, trivial⟩, ⟨by omega, bup hBs (bup hnq.below hBv)⟩, by omega⟩
        · have hkj' : ¬ ((k : Nat) : Int) < (j : Nat) := by omega
          rw [if_neg hkj] at hxv
          subst hxv
          (repeat' (first | (refine wl_L tabOk rfl rfl rfl rfl rfl rfl f1 (run_l tabOk ?_); conv => whnf) | (refine wl_X tabOk 46 1 rfl rfl rfl rfl rfl rfl rfl (by omega) (by omega) (run_l tabOk ?_); conv => whnf) | (refine wl_add rfl rfl rfl rfl rfl rfl (by omega) (by omega) (run_l tabOk ?_); conv => whnf) | (refine wl_sub rfl rfl rfl rfl rfl rfl (by omega) (by omega) (run_l tabOk ?_); conv => whnf) | (refine wl_cvA tabOk rfl rfl rfl (by simp only [inK]; omega) rfl rfl rfl (run_l tabOk ?_); conv => whnf) | (refine wl_cvB tabOk rfl rfl rfl rfl rfl rfl (run_l tabOk ?_); conv => whnf) | (refine wl_rem rfl rfl rfl rfl rfl rfl (by omega) (by omega) (fun r hr hr0 hr1 hr2 => run_l tabOk ?_); conv => whnf) | (refine wl_quo rfl rfl rfl rfl rfl rfl (by omega) (by omega) (by simp only [inK]; omega) (run_l tabOk ?_); conv => whnf) | (refine wl_mul rfl rfl rfl rfl rfl rfl (by omega) (by omega) (run_l tabOk ?_); conv => whnf) | (refine gs_dt (by first | assumption | omega) ?_; conv => whnf) | (refine gs_df (by first | assumption | omega) ?_; conv => whnf) | (refine gs_t (by assumption) ?_; conv => whnf) | (refine gs_f (by assumption) ?_; conv => whnf) | (refine gs_d (fun hg => ?_) (fun hg => ?_) <;> conv => whnf) | (refine gs_n (fun hg => ?_) (fun hg => ?_) <;> conv => whnf) | (refine gs_nb (fun hg => ?_) (fun hg => ?_) <;> conv => whnf) | (refine gs_b (fun hg => ?_) (fun hg => ?_) <;> conv => whnf) | refine fin1 rfl rfl ?_))
          exact ⟨k + 1, ⟨rfl, rfl, rfl, rfl, rfl, trivial⟩, ⟨by omega, hBs⟩, by omega⟩
      · have hkk : ¬ ((k : Nat) : Int) < (i : Nat) := by omega
        obtain ⟨x, ad, D, dc, hx, rfl, f1, hdc, hxr⟩ := rowsE (hrr.up stays_Ints hBs) 1 (by omega)
        have hxv : x = if true = true then [(j : Int) + 1] else [] := by
          rw [← hx.out, pts_at (apM_sh true i j) (by omega)]
          exact apRow1 hn4
        rw [if_pos rfl] at hxv
        subst hxv
        (repeat' (first | (refine wl_L tabOk rfl rfl rfl rfl rfl rfl f1 (run_l tabOk ?_); conv => whnf) | (refine wl_X tabOk 46 1 rfl rfl rfl rfl rfl rfl rfl (by omega) (by omega) (run_l tabOk ?_); conv => whnf) | (refine wl_add rfl rfl rfl rfl rfl rfl (by omega) (by omega) (run_l tabOk ?_); conv => whnf) | (refine wl_sub rfl rfl rfl rfl rfl rfl (by omega) (by omega) (run_l tabOk ?_); conv => whnf) | (refine wl_cvA tabOk rfl rfl rfl (by simp only [inK]; omega) rfl rfl rfl (run_l tabOk ?_); conv => whnf) | (refine wl_cvB tabOk rfl rfl rfl rfl rfl rfl (run_l tabOk ?_); conv => whnf) | (refine wl_rem rfl rfl rfl rfl rfl rfl (by omega) (by omega) (fun r hr hr0 hr1 hr2 => run_l tabOk ?_); conv => whnf) | (refine wl_quo rfl rfl rfl rfl rfl rfl (by omega) (by omega) (by simp only [inK]; omega) (run_l tabOk ?_); conv => whnf) | (refine wl_mul rfl rfl rfl rfl rfl rfl (by omega) (by omega) (run_l tabOk ?_); conv => whnf) | (refine gs_dt (by first | assumption | omega) ?_; conv => whnf) | (refine gs_df (by first | assumption | omega) ?_; conv => whnf) | (refine gs_t (by assumption) ?_; conv => whnf) | (refine gs_f (by assumption) ?_; conv => whnf) | (refine gs_d (fun hg => ?_) (fun hg => ?_) <;> conv => whnf) | (refine gs_n (fun hg => ?_) (fun hg => ?_) <;> conv => whnf) | (refine gs_nb (fun hg => ?_) (fun hg => ?_) <;> conv => whnf) | (refine gs_b (fun hg => ?_) (fun hg => ?_) <;> conv => whnf) | refine fin1 rfl rfl ?_))
        refine wl_bs tabOk 3 1 rfl rfl rfl rfl rfl rfl rfl rfl rfl rfl ?_
        intro gq ut hnq
        refine run_l tabOk ?_
        conv => whnf
        have hri : RI ut (some ⟨gq, 0, none⟩) [(j : Int) + 1] := row_of_blk hnq.blk (Elems.one rfl ⟨rfl, by show (-9223372036854775808 : Int) ≤ _; omega, by show _ ≤ (9223372036854775807 : Int); omega⟩) (by simp)
        refine wl_C fn39 (refSameInts [(j : Int) + 1] [(j : Int) + 1] D (some ⟨gq, 0, none⟩) dc 1 ut (hxr.out.up (stays_I _) hnq.below) hri) rfl rfl rfl rfl rfl rfl rfl ?_
        rintro _ uv ⟨rfl, hBv⟩
        rw [sameI_refl]
        refine ⟨_, rfl, run_l tabOk ?_⟩
        conv => whnf
        (repeat' (first | (refine wl_add rfl rfl rfl rfl rfl rfl (by omega) (by omega) (run_l tabOk ?_); conv => whnf) | (refine wl_sub rfl rfl rfl rfl rfl rfl (by omega) (by omega) (run_l tabOk ?_); conv => whnf) | (refine wl_cvA tabOk rfl rfl rfl (by simp only [inK]; omega) rfl rfl rfl (run_l tabOk ?_); conv => whnf) | (refine wl_cvB tabOk rfl rfl rfl rfl rfl rfl (run_l tabOk ?_); conv => whnf) | (refine wl_rem rfl rfl rfl rfl rfl rfl (by omega) (by omega) (fun r hr hr0 hr1 hr2 => run_l tabOk ?_); conv => whnf) | (refine wl_quo rfl rfl rfl rfl rfl rfl (by omega) (by omega) (by simp only [inK]; omega) (run_l tabOk ?_); conv => whnf) | (refine wl_mul rfl rfl rfl rfl rfl rfl (by omega) (by omega) (run_l tabOk ?_); conv => whnf) | (refine gs_dt (by first | assumption | omega) ?_; conv => whnf) | (refine gs_df (by first | assumption | omega) ?_; conv => whnf) | (refine gs_t (by assumption) ?_; conv => whnf) | (refine gs_f (by assumption) ?_; conv => whnf) | (refine gs_d (fun hg => ?_) (fun hg => ?_) <;> conv => whnf) | (refine gs_n (fun hg => ?_) (fun hg => ?_) <;> conv => whnf) | (refine gs_nb (fun hg => ?_) (fun hg => ?_) <;> conv => whnf) | (refine gs_b (fun hg => ?_) (fun hg => ?_) <;> conv => whnf) | refine fin1 rfl rfl ?_))
        all_goals exact ⟨rfl, bup (bup hB1 hBz) (bup hBs (bup hnq.below hBv))⟩
set_option maxHeartbeats 16000000 in
theorem lawSolveAppliesfalse (P1 N1 : Int) (w : World) (hT : Tab w) (ha : IntKind.u8.min ≤ P1 ∧ P1 ≤ IntKind.u8.max) (hb : IntKind.u8.min ≤ N1 ∧ N1 ≤ IntKind.u8.max) :
    Calls Tryd.prog 15 #[.int .u8 P1, .int .u8 N1, .bool false] w fun e w' => e = .returned (.bool true) ∧ Below w.heap.size w w' := by
  have ha : 0 ≤ P1 ∧ P1 ≤ 255 := ha
  have hb : 0 ≤ N1 ∧ N1 ≤ 255 := hb
  refine enterR (args := [.int .u8 P1, .int .u8 N1, .bool false]) tabOk Tryd.func15 rfl Tryd.ntmps15 rfl ?_; conv => whnf
  refine wl_C fn32 (awake20 _ hT) rfl rfl rfl rfl rfl rfl rfl ?_
  rintro _ w1 ⟨rfl, hB1⟩
  refine ⟨_, rfl, run_l tabOk ?_⟩
  conv => whnf
  (repeat' (first | (refine wl_add rfl rfl rfl rfl rfl rfl (by omega) (by omega) (run_l tabOk ?_); conv => whnf) | (refine wl_sub rfl rfl rfl rfl rfl rfl (by omega) (by omega) (run_l tabOk ?_); conv => whnf) | (refine wl_cvA tabOk rfl rfl rfl (by simp only [inK]; omega) rfl rfl rfl (run_l tabOk ?_); conv => whnf) | (refine wl_cvB tabOk rfl rfl rfl rfl rfl rfl (run_l tabOk ?_); conv => whnf) | (refine wl_rem rfl rfl rfl rfl rfl rfl (by omega) (by omega) (fun r hr hr0 hr1 hr2 => run_l tabOk ?_); conv => whnf) | (refine wl_quo rfl rfl rfl rfl rfl rfl (by omega) (by omega) (by simp only [inK]; omega) (run_l tabOk ?_); conv => whnf) | (refine wl_mul rfl rfl rfl rfl rfl rfl (by omega) (by omega) (run_l tabOk ?_); conv => whnf) | (refine gs_dt (by first | assumption | omega) ?_; conv => whnf) | (refine gs_df (by first | assumption | omega) ?_; conv => whnf) | (refine gs_t (by assumption) ?_; conv => whnf) | (refine gs_f (by assumption) ?_; conv => whnf) | (refine gs_d (fun hg => ?_) (fun hg => ?_) <;> conv => whnf) | (refine gs_n (fun hg => ?_) (fun hg => ?_) <;> conv => whnf) | (refine gs_nb (fun hg => ?_) (fun hg => ?_) <;> conv => whnf) | (refine gs_b (fun hg => ?_) (fun hg => ?_) <;> conv => whnf) | refine fin1 rfl rfl ?_))
  rename_i r' hr' hr0' hr1' hr2'
  obtain ⟨p, hp⟩ : ∃ p : Nat, r' = (p : Int) := ⟨r'.toNat, by omega⟩
  obtain ⟨n, hn⟩ : ∃ n : Nat, r = (n : Int) := ⟨r.toNat, by omega⟩
  have hp4 : p ≤ 4 := by omega
  have hn4 : n ≤ 4 := by omega
  clear hr hr0 hr1 hr2 hr' hr0' hr1' hr2'
  subst hp hn
  refine wl_bs tabOk 71 3 rfl rfl rfl rfl rfl rfl rfl rfl rfl rfl ?_
  intro g6 w2 hn2
  refine run_l tabOk ?_
  conv => whnf
  (repeat' (first | (refine wl_add rfl rfl rfl rfl rfl rfl (by omega) (by omega) (run_l tabOk ?_); conv => whnf) | (refine wl_sub rfl rfl rfl rfl rfl rfl (by omega) (by omega) (run_l tabOk ?_); conv => whnf) | (refine wl_cvA tabOk rfl rfl rfl (by simp only [inK]; omega) rfl rfl rfl (run_l tabOk ?_); conv => whnf) | (refine wl_cvB tabOk rfl rfl rfl rfl rfl rfl (run_l tabOk ?_); conv => whnf) | (refine wl_rem rfl rfl rfl rfl rfl rfl (by omega) (by omega) (fun r hr hr0 hr1 hr2 => run_l tabOk ?_); conv => whnf) | (refine wl_quo rfl rfl rfl rfl rfl rfl (by omega) (by omega) (by simp only [inK]; omega) (run_l tabOk ?_); conv => whnf) | (refine wl_mul rfl rfl rfl rfl rfl rfl (by omega) (by omega) (run_l tabOk ?_); conv => whnf) | (refine gs_dt (by first | assumption | omega) ?_; conv => whnf) | (refine gs_df (by first | assumption | omega) ?_; conv => whnf) | (refine gs_t (by assumption) ?_; conv => whnf) | (refine gs_f (by assumption) ?_; conv => whnf) | (refine gs_d (fun hg => ?_) (fun hg => ?_) <;> conv => whnf) | (refine gs_n (fun hg => ?_) (fun hg => ?_) <;> conv => whnf) | (refine gs_nb (fun hg => ?_) (fun hg => ?_) <;> conv => whnf) | (refine gs_b (fun hg => ?_) (fun hg => ?_) <;> conv => whnf) | refine fin1 rfl rfl ?_))
  refine wl_alloc tabOk rfl rfl rfl rfl rfl rfl ?_
  intro g9 w3 hn3
  (repeat' (first | (refine wl_add rfl rfl rfl rfl rfl rfl (by omega) (by omega) (run_l tabOk ?_); conv => whnf) | (refine wl_sub rfl rfl rfl rfl rfl rfl (by omega) (by omega) (run_l tabOk ?_); conv => whnf) | (refine wl_cvA tabOk rfl rfl rfl (by simp only [inK]; omega) rfl rfl rfl (run_l tabOk ?_); conv => whnf) | (refine wl_cvB tabOk rfl rfl rfl rfl rfl rfl (run_l tabOk ?_); conv => whnf) | (refine wl_rem rfl rfl rfl rfl rfl rfl (by omega) (by omega) (fun r hr hr0 hr1 hr2 => run_l tabOk ?_); conv => whnf) | (refine wl_quo rfl rfl rfl rfl rfl rfl (by omega) (by omega) (by simp only [inK]; omega) (run_l tabOk ?_); conv => whnf) | (refine wl_mul rfl rfl rfl rfl rfl rfl (by omega) (by omega) (run_l tabOk ?_); conv => whnf) | (refine gs_dt (by first | assumption | omega) ?_; conv => whnf) | (refine gs_df (by first | assumption | omega) ?_; conv => whnf) | (refine gs_t (by assumption) ?_; conv => whnf) | (refine gs_f (by assumption) ?_; conv => whnf) | (refine gs_d (fun hg => ?_) (fun hg => ?_) <;> conv => whnf) | (refine gs_n (fun hg => ?_) (fun hg => ?_) <;> conv => whnf) | (refine gs_nb (fun hg => ?_) (fun hg => ?_) <;> conv => whnf) | (refine gs_b (fun hg => ?_) (fun hg => ?_) <;> conv => whnf) | refine fin1 rfl rfl ?_))
  refine wl_Sa tabOk hn3.blk rfl rfl rfl rfl rfl (by simp [Value.oneCell']) rfl rfl ?_
  intro w4 hp4'
  refine run_l tabOk ?_
  conv => whnf
  (repeat' (first | (refine wl_add rfl rfl rfl rfl rfl rfl (by omega) (by omega) (run_l tabOk ?_); conv => whnf) | (refine wl_sub rfl rfl rfl rfl rfl rfl (by omega) (by omega) (run_l tabOk ?_); conv => whnf) | (refine wl_cvA tabOk rfl rfl rfl (by simp only [inK]; omega) rfl rfl rfl (run_l tabOk ?_); conv => whnf) | (refine wl_cvB tabOk rfl rfl rfl rfl rfl rfl (run_l tabOk ?_); conv => whnf) | (refine wl_rem rfl rfl rfl rfl rfl rfl (by omega) (by omega) (fun r hr hr0 hr1 hr2 => run_l tabOk ?_); conv => whnf) | (refine wl_quo rfl rfl rfl rfl rfl rfl (by omega) (by omega) (by simp only [inK]; omega) (run_l tabOk ?_); conv => whnf) | (refine wl_mul rfl rfl rfl rfl rfl rfl (by omega) (by omega) (run_l tabOk ?_); conv => whnf) | (refine gs_dt (by first | assumption | omega) ?_; conv => whnf) | (refine gs_df (by first | assumption | omega) ?_; conv => whnf) | (refine gs_t (by assumption) ?_; conv => whnf) | (refine gs_f (by assumption) ?_; conv => whnf) | (refine gs_d (fun hg => ?_) (fun hg => ?_) <;> conv => whnf) | (refine gs_n (fun hg => ?_) (fun hg => ?_) <;> conv => whnf) | (refine gs_nb (fun hg => ?_) (fun hg => ?_) <;> conv => whnf) | (refine gs_b (fun hg => ?_) (fun hg => ?_) <;> conv => whnf) | refine fin1 rfl rfl ?_))
  refine wl_alloc tabOk rfl rfl rfl rfl rfl rfl ?_
  intro g10 w5 hn5
  (repeat' (first | (refine wl_add rfl rfl rfl rfl rfl rfl (by omega) (by omega) (run_l tabOk ?_); conv => whnf) | (refine wl_sub rfl rfl rfl rfl rfl rfl (by omega) (by omega) (run_l tabOk ?_); conv => whnf) | (refine wl_cvA tabOk rfl rfl rfl (by simp only [inK]; omega) rfl rfl rfl (run_l tabOk ?_); conv => whnf) | (refine wl_cvB tabOk rfl rfl rfl rfl rfl rfl (run_l tabOk ?_); conv => whnf) | (refine wl_rem rfl rfl rfl rfl rfl rfl (by omega) (by omega) (fun r hr hr0 hr1 hr2 => run_l tabOk ?_); conv => whnf) | (refine wl_quo rfl rfl rfl rfl rfl rfl (by omega) (by omega) (by simp only [inK]; omega) (run_l tabOk ?_); conv => whnf) | (refine wl_mul rfl rfl rfl rfl rfl rfl (by omega) (by omega) (run_l tabOk ?_); conv => whnf) | (refine gs_dt (by first | assumption | omega) ?_; conv => whnf) | (refine gs_df (by first | assumption | omega) ?_; conv => whnf) | (refine gs_t (by assumption) ?_; conv => whnf) | (refine gs_f (by assumption) ?_; conv => whnf) | (refine gs_d (fun hg => ?_) (fun hg => ?_) <;> conv => whnf) | (refine gs_n (fun hg => ?_) (fun hg => ?_) <;> conv => whnf) | (refine gs_nb (fun hg => ?_) (fun hg => ?_) <;> conv => whnf) | (refine gs_b (fun hg => ?_) (fun hg => ?_) <;> conv => whnf) | refine fin1 rfl rfl ?_))
  refine wl_Sa tabOk hn5.blk rfl rfl rfl rfl rfl (by simp [Value.oneCell']) rfl rfl ?_
  intro w6 hp6
  refine run_l tabOk ?_
  conv => whnf
  have hg6 : w1.heap.size ≤ g6 := by have := hn2.at_; omega
  have n69 : g6 < g9 := by have := hn3.at_; have := blk_lt hn2.blk; omega
  have n910 : g9 < g10 := by have := hn5.at_; have := blk_lt hp4'.blk; omega
  have hB4 : Below w1.heap.size w1 w4 := hp4'.below (bup hn2.below hn3.below) (by omega) (by have := hn2.size; have := hn3.size; omega)
  have hB6 : Below w1.heap.size w1 w6 := hp6.below (bup hB4 hn5.below) (by omega) (by have := hB4.size; have := hn5.size; omega)
  have b6 := hp6.old (blk_up hn5.below (hp4'.old (blk_up hn3.below hn2.blk) (by omega))) (by omega)
  have b9 := hp6.old (blk_up hn5.below hp4'.blk) (by omega)
  have b10 := hp6.blk
  clear hn2 hn3 hp4' hn5 hp6 hB4
  (repeat' (first | (refine wl_add rfl rfl rfl rfl rfl rfl (by omega) (by omega) (run_l tabOk ?_); conv => whnf) | (refine wl_sub rfl rfl rfl rfl rfl rfl (by omega) (by omega) (run_l tabOk ?_); conv => whnf) | (refine wl_cvA tabOk rfl rfl rfl (by simp only [inK]; omega) rfl rfl rfl (run_l tabOk ?_); conv => whnf) | (refine wl_cvB tabOk rfl rfl rfl rfl rfl rfl (run_l tabOk ?_); conv => whnf) | (refine wl_rem rfl rfl rfl rfl rfl rfl (by omega) (by omega) (fun r hr hr0 hr1 hr2 => run_l tabOk ?_); conv => whnf) | (refine wl_quo rfl rfl rfl rfl rfl rfl (by omega) (by omega) (by simp only [inK]; omega) (run_l tabOk ?_); conv => whnf) | (refine wl_mul rfl rfl rfl rfl rfl rfl (by omega) (by omega) (run_l tabOk ?_); conv => whnf) | (refine gs_dt (by first | assumption | omega) ?_; conv => whnf) | (refine gs_df (by first | assumption | omega) ?_; conv => whnf) | (refine gs_t (by assumption) ?_; conv => whnf) | (refine gs_f (by assumption) ?_; conv => whnf) | (refine gs_d (fun hg => ?_) (fun hg => ?_) <;> conv => whnf) | (refine gs_n (fun hg => ?_) (fun hg => ?_) <;> conv => whnf) | (refine gs_nb (fun hg => ?_) (fun hg => ?_) <;> conv => whnf) | (refine gs_b (fun hg => ?_) (fun hg => ?_) <;> conv => whnf) | refine fin1 rfl rfl ?_))
  refine wl_bs tabOk 66 4 rfl rfl rfl rfl rfl rfl rfl rfl rfl rfl ?_
  intro gy w8 hn8
  refine run_l tabOk ?_
  conv => whnf
  (repeat' (first | (refine wl_add rfl rfl rfl rfl rfl rfl (by omega) (by omega) (run_l tabOk ?_); conv => whnf) | (refine wl_sub rfl rfl rfl rfl rfl rfl (by omega) (by omega) (run_l tabOk ?_); conv => whnf) | (refine wl_cvA tabOk rfl rfl rfl (by simp only [inK]; omega) rfl rfl rfl (run_l tabOk ?_); conv => whnf) | (refine wl_cvB tabOk rfl rfl rfl rfl rfl rfl (run_l tabOk ?_); conv => whnf) | (refine wl_rem rfl rfl rfl rfl rfl rfl (by omega) (by omega) (fun r hr hr0 hr1 hr2 => run_l tabOk ?_); conv => whnf) | (refine wl_quo rfl rfl rfl rfl rfl rfl (by omega) (by omega) (by simp only [inK]; omega) (run_l tabOk ?_); conv => whnf) | (refine wl_mul rfl rfl rfl rfl rfl rfl (by omega) (by omega) (run_l tabOk ?_); conv => whnf) | (refine gs_dt (by first | assumption | omega) ?_; conv => whnf) | (refine gs_df (by first | assumption | omega) ?_; conv => whnf) | (refine gs_t (by assumption) ?_; conv => whnf) | (refine gs_f (by assumption) ?_; conv => whnf) | (refine gs_d (fun hg => ?_) (fun hg => ?_) <;> conv => whnf) | (refine gs_n (fun hg => ?_) (fun hg => ?_) <;> conv => whnf) | (refine gs_nb (fun hg => ?_) (fun hg => ?_) <;> conv => whnf) | (refine gs_b (fun hg => ?_) (fun hg => ?_) <;> conv => whnf) | refine fin1 rfl rfl ?_))
  refine wl_S (off := 2) (v := .slice (some ⟨gy, 0, none⟩) 1 1) tabOk (blk_up hn8.below b9) rfl rfl rfl rfl rfl rfl (by simp) rfl rfl ?_
  intro w9 hp9
  refine run_l tabOk ?_
  conv => whnf
  have n10y : g10 < gy := by have := hn8.at_; have := blk_lt b10; omega
  have hB9 : Below w1.heap.size w1 w9 := hp9.below (bup hB6 hn8.below) (by omega) (by have := hB6.size; have := hn8.size; omega)
  have b6 := hp9.old (blk_up hn8.below b6) (by omega)
  have b10 : w9.heap[g10]? = some (.cells #[.int .u8 5, .int .i64 (apA false), .int .i64 0, .slice none 0 0] 66 (0, 0)) := hp9.old (blk_up hn8.below b10) (by omega)
  have by_ := hp9.old hn8.blk (by omega)
  have b9 := hp9.blk
  have hgy := blk_lt by_
  clear hp9 hn8 hB6
  (repeat' (first | (refine wl_add rfl rfl rfl rfl rfl rfl (by omega) (by omega) (run_l tabOk ?_); conv => whnf) | (refine wl_sub rfl rfl rfl rfl rfl rfl (by omega) (by omega) (run_l tabOk ?_); conv => whnf) | (refine wl_cvA tabOk rfl rfl rfl (by simp only [inK]; omega) rfl rfl rfl (run_l tabOk ?_); conv => whnf) | (refine wl_cvB tabOk rfl rfl rfl rfl rfl rfl (run_l tabOk ?_); conv => whnf) | (refine wl_rem rfl rfl rfl rfl rfl rfl (by omega) (by omega) (fun r hr hr0 hr1 hr2 => run_l tabOk ?_); conv => whnf) | (refine wl_quo rfl rfl rfl rfl rfl rfl (by omega) (by omega) (by simp only [inK]; omega) (run_l tabOk ?_); conv => whnf) | (refine wl_mul rfl rfl rfl rfl rfl rfl (by omega) (by omega) (run_l tabOk ?_); conv => whnf) | (refine gs_dt (by first | assumption | omega) ?_; conv => whnf) | (refine gs_df (by first | assumption | omega) ?_; conv => whnf) | (refine gs_t (by assumption) ?_; conv => whnf) | (refine gs_f (by assumption) ?_; conv => whnf) | (refine gs_d (fun hg => ?_) (fun hg => ?_) <;> conv => whnf) | (refine gs_n (fun hg => ?_) (fun hg => ?_) <;> conv => whnf) | (refine gs_nb (fun hg => ?_) (fun hg => ?_) <;> conv => whnf) | (refine gs_b (fun hg => ?_) (fun hg => ?_) <;> conv => whnf) | refine fin1 rfl rfl ?_))
  refine lp_loop tabOk (X := Nat × Value) (fun x => [(2, .bool false), (7, .int .i64 p), (8, .int .i64 n), (9, .pointer (some ⟨g9, 0, none⟩)), (10, .pointer (some ⟨g10, 0, none⟩)), (11, .int .i64 x.1)])
    (fun x wr => x.1 ≤ p ∧ wr.heap[g6]? = some (.cells #[.bool true, .int .i64 10, x.2] 71 (0, 0)) ∧ wr.heap[g9]? = some (.cells #[.int .i64 30, .slice (some ⟨g6, 0, none⟩) 1 1, .slice (some ⟨gy, 0, none⟩) 1 1] 54 (0, 0))
      ∧ wr.heap[g10]? = some (.cells #[.int .u8 5, .int .i64 (apA false), .int .i64 0, .slice none 0 0] 66 (0, 0)) ∧ wr.heap[gy]? = some (.cells #[.int .u8 1, .int .i64 0, .int .i64 0, .slice none 0 0] 66 (0, 0)) ∧ GInts w9.heap.size wr x.2 (apArgs 11 x.1) ∧ Below w1.heap.size w1 wr ∧ w9.heap.size ≤ wr.heap.size)
    (fun x => p - x.1) (0, .slice none 0 0) ⟨rfl, rfl, rfl, rfl, rfl, rfl, trivial⟩ ⟨by simp, b6, b9, b10, by_, GRow.nil .., hB9, Nat.le_refl _⟩ ?_
  clear b6 b9 b10 by_ hB9
  rintro ⟨i, vp⟩ G wr ⟨hi, b6, b9, b10, by_, hvp, hB, hsz⟩
  simp only at hi b6 b9 b10 by_ hvp hB hsz
  conv => whnf
  have hlt := hvp.olt
  by_cases hip : i < p
  · have hiq : ((i, vp) : Nat × Value).fst < p := hip
    have hii : ((i : Nat) : Int) < (p : Nat) := by omega
    obtain ⟨⟨flat, hown, hel⟩, _, _⟩ := id hvp
    have kp : ∀ (k : Nat) (o : Obj), wr.heap[k]? = some o → k < w9.heap.size → ∀ w', Gw wr vp.ownBlock w' → w'.heap[k]? = some o := fun k o hk hkn w' hw' => (hw'.block k (blk_lt hk) (fun e => by have := (hlt k e.symm).1; omega)).trans hk
    have hk6 := kp g6 _ b6 (by omega)
    have hk9 := kp g9 _ b9 (by omega)
    have hk10 := kp g10 _ b10 (by omega)
    have hky := kp gy _ by_ hgy
    have hal := apArgs_len 11 i
    (repeat' (first | (refine wl_add rfl rfl rfl rfl rfl rfl (by omega) (by omega) (run_l tabOk ?_); conv => whnf) | (refine wl_sub rfl rfl rfl rfl rfl rfl (by omega) (by omega) (run_l tabOk ?_); conv => whnf) | (refine wl_cvA tabOk rfl rfl rfl (by simp only [inK]; omega) rfl rfl rfl (run_l tabOk ?_); conv => whnf) | (refine wl_cvB tabOk rfl rfl rfl rfl rfl rfl (run_l tabOk ?_); conv => whnf) | (refine wl_rem rfl rfl rfl rfl rfl rfl (by omega) (by omega) (fun r hr hr0 hr1 hr2 => run_l tabOk ?_); conv => whnf) | (refine wl_quo rfl rfl rfl rfl rfl rfl (by omega) (by omega) (by simp only [inK]; omega) (run_l tabOk ?_); conv => whnf) | (refine wl_mul rfl rfl rfl rfl rfl rfl (by omega) (by omega) (run_l tabOk ?_); conv => whnf) | (refine gs_dt (by first | assumption | omega) ?_; conv => whnf) | (refine gs_df (by first | assumption | omega) ?_; conv => whnf) | (refine gs_t (by assumption) ?_; conv => whnf) | (refine gs_f (by assumption) ?_; conv => whnf) | (refine gs_d (fun hg => ?_) (fun hg => ?_) <;> conv => whnf) | (refine gs_n (fun hg => ?_) (fun hg => ?_) <;> conv => whnf) | (refine gs_nb (fun hg => ?_) (fun hg => ?_) <;> conv => whnf) | (refine gs_b (fun hg => ?_) (fun hg => ?_) <;> conv => whnf) | refine fin1 rfl rfl ?_))
    refine wc_qx [0, 1, 2, 3, 4, 5, 6, 7, 8] 2 11 (stable_Gw _ (vp.ownBlock)) tabOk mixed (by kernel_rfl) (grown_refl _ _) ?_; (conv => whnf)
    (repeat' (first | (refine wq_LgC tabOk hk9 rfl rfl rfl rfl rfl rfl rfl (run_q tabOk ?_); conv => whnf) | (refine wq_LgC tabOk hk6 rfl rfl rfl rfl rfl rfl rfl (run_q tabOk ?_); conv => whnf) | (refine wq_X tabOk 71 3 rfl rfl rfl rfl rfl rfl rfl (by omega) (by omega) (run_q tabOk ?_); conv => whnf) | (refine wq_add rfl rfl rfl rfl rfl rfl (by omega) (by omega) (run_q tabOk ?_); conv => whnf) | (refine wq_sub rfl rfl rfl rfl rfl rfl (by omega) (by omega) (run_q tabOk ?_); conv => whnf) | (refine wq_cvA tabOk rfl rfl rfl (by simp only [inK]; omega) rfl rfl rfl (run_q tabOk ?_); conv => whnf) | (refine wq_cvB tabOk rfl rfl rfl rfl rfl rfl (run_q tabOk ?_); conv => whnf) | (refine wq_rem rfl rfl rfl rfl rfl rfl (by omega) (by omega) (fun r hr hr0 hr1 hr2 => run_q tabOk ?_); conv => whnf) | (refine wq_quo rfl rfl rfl rfl rfl rfl (by omega) (by omega) (by simp only [inK]; omega) (run_q tabOk ?_); conv => whnf) | (refine wq_mul rfl rfl rfl rfl rfl rfl (by omega) (by omega) (run_q tabOk ?_); conv => whnf) | (refine gs_dt (by first | assumption | omega) ?_; conv => whnf) | (refine gs_df (by first | assumption | omega) ?_; conv => whnf) | (refine gs_t (by assumption) ?_; conv => whnf) | (refine gs_f (by assumption) ?_; conv => whnf) | (refine gs_d (fun hg => ?_) (fun hg => ?_) <;> conv => whnf) | (refine gs_n (fun hg => ?_) (fun hg => ?_) <;> conv => whnf) | (refine gs_nb (fun hg => ?_) (fun hg => ?_) <;> conv => whnf) | (refine gs_b (fun hg => ?_) (fun hg => ?_) <;> conv => whnf)))
    intro u1 hu1 hbu1
    conv => whnf
    refine ⟨?_, trivial⟩
    conv => whnf
    refine wb_a (wa_bs tabOk 3 1 rfl rfl rfl rfl rfl rfl rfl rfl rfl ?_)
    intro gn u2 hn2
    refine ⟨grown_trans hu1 (grown_of hn2.below), fun u3 hbu3 hu3 => ?_⟩
    conv => whnf
    refine ⟨?_, trivial⟩
    conv => whnf
    have hB73 := bup hbu1 (bup hn2.below hbu3)
    have hown3 := hown.kept (grown_of hB73) (Classical.em _)
    refine wb_a (wa_ap tabOk 3 1 8 hown3 (blk_up hbu3 hn2.blk) rfl rfl rfl rfl rfl rfl rfl rfl rfl rfl (by simp) (by simp [Value.oneCell']) (by omega) (by omega) (by have := hB73.size; omega) ?_)
    intro D dc u4 hown4 hgr4 hob4
    refine ⟨grown_trans hu3 hgr4, fun u5 hbu5 hu5 => ?_⟩
    conv => whnf
    (repeat' (first | (refine wl_X tabOk 71 3 rfl rfl rfl rfl rfl rfl rfl (by omega) (by omega) (run_l tabOk ?_); conv => whnf) | (refine wl_add rfl rfl rfl rfl rfl rfl (by omega) (by omega) (run_l tabOk ?_); conv => whnf) | (refine wl_sub rfl rfl rfl rfl rfl rfl (by omega) (by omega) (run_l tabOk ?_); conv => whnf) | (refine wl_cvA tabOk rfl rfl rfl (by simp only [inK]; omega) rfl rfl rfl (run_l tabOk ?_); conv => whnf) | (refine wl_cvB tabOk rfl rfl rfl rfl rfl rfl (run_l tabOk ?_); conv => whnf) | (refine wl_rem rfl rfl rfl rfl rfl rfl (by omega) (by omega) (fun r hr hr0 hr1 hr2 => run_l tabOk ?_); conv => whnf) | (refine wl_quo rfl rfl rfl rfl rfl rfl (by omega) (by omega) (by simp only [inK]; omega) (run_l tabOk ?_); conv => whnf) | (refine wl_mul rfl rfl rfl rfl rfl rfl (by omega) (by omega) (run_l tabOk ?_); conv => whnf) | (refine gs_dt (by first | assumption | omega) ?_; conv => whnf) | (refine gs_df (by first | assumption | omega) ?_; conv => whnf) | (refine gs_t (by assumption) ?_; conv => whnf) | (refine gs_f (by assumption) ?_; conv => whnf) | (refine gs_d (fun hg => ?_) (fun hg => ?_) <;> conv => whnf) | (refine gs_n (fun hg => ?_) (fun hg => ?_) <;> conv => whnf) | (refine gs_nb (fun hg => ?_) (fun hg => ?_) <;> conv => whnf) | (refine gs_b (fun hg => ?_) (fun hg => ?_) <;> conv => whnf) | refine fin1 rfl rfl ?_))
    have hrow3 : GInts w9.heap.size u3 vp (apArgs 11 i) := hvp.below hB73
    have hrow5 := (gints_push hrow3 (fun w' _ => ⟨(hel wr (fun _ _ => rfl)).1, (hel wr (fun _ _ => rfl)).2⟩) hown4 hgr4 hob4 (y := 11 + ((i : Nat) : Int)) (by omega)).below hbu5
    rw [← apArgs_next] at hrow5
    refine wl_S (off := 2) (v := .slice D ((apArgs 11 i).length + 1) dc) tabOk (hk6 u5 hu5) rfl rfl rfl rfl rfl rfl (by simp) rfl rfl ?_
    intro u6 hp6
    refine run_l tabOk ?_
    conv => whnf
    have hgr5 : wr.grownBy u5 vp.ownBlock := hu5
    have hB6 := below_push hB hg6 (fun k hk => ⟨by have := (hlt k hk).1; have := hB.size; have := hgy; omega, (hlt k hk).2⟩) hgr5 hp6
    (repeat' (first | (refine wl_add rfl rfl rfl rfl rfl rfl (by omega) (by omega) (run_l tabOk ?_); conv => whnf) | (refine wl_sub rfl rfl rfl rfl rfl rfl (by omega) (by omega) (run_l tabOk ?_); conv => whnf) | (refine wl_cvA tabOk rfl rfl rfl (by simp only [inK]; omega) rfl rfl rfl (run_l tabOk ?_); conv => whnf) | (refine wl_cvB tabOk rfl rfl rfl rfl rfl rfl (run_l tabOk ?_); conv => whnf) | (refine wl_rem rfl rfl rfl rfl rfl rfl (by omega) (by omega) (fun r hr hr0 hr1 hr2 => run_l tabOk ?_); conv => whnf) | (refine wl_quo rfl rfl rfl rfl rfl rfl (by omega) (by omega) (by simp only [inK]; omega) (run_l tabOk ?_); conv => whnf) | (refine wl_mul rfl rfl rfl rfl rfl rfl (by omega) (by omega) (run_l tabOk ?_); conv => whnf) | (refine gs_dt (by first | assumption | omega) ?_; conv => whnf) | (refine gs_df (by first | assumption | omega) ?_; conv => whnf) | (refine gs_t (by assumption) ?_; conv => whnf) | (refine gs_f (by assumption) ?_; conv => whnf) | (refine gs_d (fun hg => ?_) (fun hg => ?_) <;> conv => whnf) | (refine gs_n (fun hg => ?_) (fun hg => ?_) <;> conv => whnf) | (refine gs_nb (fun hg => ?_) (fun hg => ?_) <;> conv => whnf) | (refine gs_b (fun hg => ?_) (fun hg => ?_) <;> conv => whnf) | refine fin1 rfl rfl ?_))
    exact ⟨(i + 1, .slice D ((apArgs 11 i).length + 1) dc), ⟨rfl, rfl, rfl, rfl, rfl, rfl, trivial⟩, ⟨by simp only; omega, hp6.blk, hp6.old (hk9 u5 hu5) (by omega), hp6.old (hk10 u5 hu5) (by omega), hp6.old (hky u5 hu5) (by omega), hrow5.other hp6.grown (by simp) (fun k hk e => by have := (hrow5.olt k hk).1; omega), hB6, by rw [hp6.size]; have := hgr5.size; omega⟩, by simp only; omega⟩
  · have hip' : i = p := by omega
    subst hip'
    have hii : ¬ ((i : Nat) : Int) < (i : Nat) := by omega
    obtain ⟨Av, cv, hvs, _, _⟩ := hvp.row
    have hA : ∃ O, Ap w1.heap.size g9 g10 (apA false) O wr (.slice (some ⟨g6, 0, none⟩) 1 1) (.slice (some ⟨gy, 0, none⟩) 1 1) (.slice none 0 0) (apCells i 0) vp.ownBlock.toList (apCons 0) (apArgs 2 0) := by
      have hbb : ∀ b ∈ vp.ownBlock.toList, w9.heap.size ≤ b ∧ b < wr.heap.size := fun b hb => hlt b (mem_own hb)
      refine ⟨fun b => if b = g9 then 0 else if b = g10 then 1 else if b = g6 then 2 else if b = gy then 4 else 3, ⟨⟨_, ownBlk9 (size := 3) (n := 1) b6 hg6 (by decide) rfl, fun w' hw' => Elems.one rfl ?_⟩, fun b hb => ?_, fun b hb e => ?_⟩, fun k hk => ?_, fun b hb => ?_, ⟨⟨_, ownBlk9 (size := 4) (n := 1) by_ (by omega) (by decide) rfl, fun w' _ => Elems.one rfl (dCon_nil _ 1 0 0 (by decide) (by decide) (by decide))⟩, by simp, by simp⟩, fun k hk => ?_, GRow.nil .., fun k hk => ?_, b9, by simp, b10, by simp; omega⟩
      · rw [hvs] at hvp hw' ⊢
        exact dCell_of hvp true 10 (by decide) w' hw'
      · have := hbb b hb
        have := hB.size
        omega
      · have e : some b = some g6 := e
        injection e with e
        have := hbb b hb
        omega
      · have hk : some g6 = some k := hk
        injection hk with hk
        subst hk
        show (if g6 = g9 then 0 else if g6 = g10 then 1 else if g6 = g6 then 2 else if g6 = gy then 4 else 3) = 2
        rw [if_neg (by omega), if_neg (by omega), if_pos rfl]
      · have := hbb b hb
        show (if b = g9 then 0 else if b = g10 then 1 else if b = g6 then 2 else if b = gy then 4 else 3) = 3
        rw [if_neg (by omega), if_neg (by omega), if_neg (by omega), if_neg (by omega)]
      · have hk : some gy = some k := hk
        injection hk with hk
        subst hk
        show (if gy = g9 then 0 else if gy = g10 then 1 else if gy = g6 then 2 else if gy = gy then 4 else 3) = 4
        rw [if_neg (by omega), if_neg (by omega), if_neg (by omega), if_pos rfl]
      · cases hk
    clear b6 b9 b10 by_ hlt
    (repeat' (first | (refine wl_add rfl rfl rfl rfl rfl rfl (by omega) (by omega) (run_l tabOk ?_); conv => whnf) | (refine wl_sub rfl rfl rfl rfl rfl rfl (by omega) (by omega) (run_l tabOk ?_); conv => whnf) | (refine wl_cvA tabOk rfl rfl rfl (by simp only [inK]; omega) rfl rfl rfl (run_l tabOk ?_); conv => whnf) | (refine wl_cvB tabOk rfl rfl rfl rfl rfl rfl (run_l tabOk ?_); conv => whnf) | (refine wl_rem rfl rfl rfl rfl rfl rfl (by omega) (by omega) (fun r hr hr0 hr1 hr2 => run_l tabOk ?_); conv => whnf) | (refine wl_quo rfl rfl rfl rfl rfl rfl (by omega) (by omega) (by simp only [inK]; omega) (run_l tabOk ?_); conv => whnf) | (refine wl_mul rfl rfl rfl rfl rfl rfl (by omega) (by omega) (run_l tabOk ?_); conv => whnf) | (refine gs_dt (by first | assumption | omega) ?_; conv => whnf) | (refine gs_df (by first | assumption | omega) ?_; conv => whnf) | (refine gs_t (by assumption) ?_; conv => whnf) | (refine gs_f (by assumption) ?_; conv => whnf) | (refine gs_d (fun hg => ?_) (fun hg => ?_) <;> conv => whnf) | (refine gs_n (fun hg => ?_) (fun hg => ?_) <;> conv => whnf) | (refine gs_nb (fun hg => ?_) (fun hg => ?_) <;> conv => whnf) | (refine gs_b (fun hg => ?_) (fun hg => ?_) <;> conv => whnf) | refine fin1 rfl rfl ?_))
    refine lp_loop tabOk (X := Nat × Value × Value × Value) (fun x => [(2, .bool false), (7, .int .i64 i), (8, .int .i64 n), (9, .pointer (some ⟨g9, 0, none⟩)), (10, .pointer (some ⟨g10, 0, none⟩)), (12, .int .i64 x.1)])
      (fun x wr => x.1 ≤ n ∧ (∃ O, Ap w1.heap.size g9 g10 (apA false) O wr x.2.1 x.2.2.1 x.2.2.2 (apCells i x.1) vp.ownBlock.toList (apCons x.1) (apArgs 2 x.1)) ∧ Below w1.heap.size w1 wr)
      (fun x => n - x.1) (0, .slice (some ⟨g6, 0, none⟩) 1 1, .slice (some ⟨gy, 0, none⟩) 1 1, .slice none 0 0) ⟨rfl, rfl, rfl, rfl, rfl, rfl, trivial⟩ ⟨by simp, hA, hB⟩ ?_
    clear hA hB hsz hvp
    rintro ⟨j, vx, vy, vc⟩ G wr ⟨hj, ⟨O, hA⟩, hB⟩
    simp only at hj hA hB
    conv => whnf
    by_cases hjn : j < n
    · have hjq : ((j, vx, vy, vc) : Nat × Value × Value × Value).fst < n := hjn
      have hjj : ((j : Nat) : Int) < (n : Nat) := by omega
      have lx := apCells_len i j
      have ly := apCons_len j
      have lz := apArgs_len 2 j
      (repeat' (first | (refine wl_Lg tabOk hA.b9 rfl rfl rfl rfl rfl rfl rfl (run_l tabOk ?_); conv => whnf) | (refine wl_add rfl rfl rfl rfl rfl rfl (by omega) (by omega) (run_l tabOk ?_); conv => whnf) | (refine wl_sub rfl rfl rfl rfl rfl rfl (by omega) (by omega) (run_l tabOk ?_); conv => whnf) | (refine wl_cvA tabOk rfl rfl rfl (by simp only [inK]; omega) rfl rfl rfl (run_l tabOk ?_); conv => whnf) | (refine wl_cvB tabOk rfl rfl rfl rfl rfl rfl (run_l tabOk ?_); conv => whnf) | (refine wl_rem rfl rfl rfl rfl rfl rfl (by omega) (by omega) (fun r hr hr0 hr1 hr2 => run_l tabOk ?_); conv => whnf) | (refine wl_quo rfl rfl rfl rfl rfl rfl (by omega) (by omega) (by simp only [inK]; omega) (run_l tabOk ?_); conv => whnf) | (refine wl_mul rfl rfl rfl rfl rfl rfl (by omega) (by omega) (run_l tabOk ?_); conv => whnf) | (refine gs_dt (by first | assumption | omega) ?_; conv => whnf) | (refine gs_df (by first | assumption | omega) ?_; conv => whnf) | (refine gs_t (by assumption) ?_; conv => whnf) | (refine gs_f (by assumption) ?_; conv => whnf) | (refine gs_d (fun hg => ?_) (fun hg => ?_) <;> conv => whnf) | (refine gs_n (fun hg => ?_) (fun hg => ?_) <;> conv => whnf) | (refine gs_nb (fun hg => ?_) (fun hg => ?_) <;> conv => whnf) | (refine gs_b (fun hg => ?_) (fun hg => ?_) <;> conv => whnf) | refine fin1 rfl rfl ?_))
      refine wl_bs tabOk 71 3 rfl rfl rfl rfl rfl rfl rfl rfl rfl rfl ?_
      intro gm ua hnm
      refine run_l tabOk ?_
      conv => whnf
      have hAa := hA.up hnm.below
      have hBa := bup hB hnm.below
      obtain ⟨⟨fy, hown, hel⟩, _, _⟩ := id hAa.x
      refine wl_ap tabOk 71 3 40 hown hnm.blk rfl rfl rfl rfl rfl rfl rfl rfl rfl rfl rfl rfl (by simp [Value.oneCell']) (by omega) (by omega) hBa.size ?_
      intro E ec ub hown2 hgm hob
      have b2 := (hgm.block g9 (blk_lt hAa.b9) (fun e => by have := hAa.xo g9 e.symm; have := hAa.o9; omega)).trans hAa.b9
      refine run_l tabOk ?_
      conv => whnf
      refine wl_S (off := 1) (v := .slice E ((apCells i j).length + 1) ec) tabOk b2 rfl rfl rfl rfl rfl rfl (by simp) rfl rfl ?_
      intro uc hpc
      refine run_l tabOk ?_
      conv => whnf
      have hBc := below_push hBa (by omega : w1.heap.size ≤ g9) hAa.x.olt hgm hpc
      have hAc := hAa.pushX (x := ⟨false, 20 + ((j : Nat) : Int), []⟩) hel hown2 hgm hob hpc rfl (fun w' => dCell_nil _ _ _ (by show (-9223372036854775808 : Int) ≤ _; omega) (by show _ ≤ (9223372036854775807 : Int); omega))
      rw [← apCells_next] at hAc
      clear hpc b2 hob hgm hown2 hel hown hAa hBa hnm hA hB
      have hA := hAc
      have hB := hBc
      clear hAc hBc
      (repeat' (first | (refine wl_Lg tabOk hA.b9 rfl rfl rfl rfl rfl rfl rfl (run_l tabOk ?_); conv => whnf) | (refine wl_add rfl rfl rfl rfl rfl rfl (by omega) (by omega) (run_l tabOk ?_); conv => whnf) | (refine wl_sub rfl rfl rfl rfl rfl rfl (by omega) (by omega) (run_l tabOk ?_); conv => whnf) | (refine wl_cvA tabOk rfl rfl rfl (by simp only [inK]; omega) rfl rfl rfl (run_l tabOk ?_); conv => whnf) | (refine wl_cvB tabOk rfl rfl rfl rfl rfl rfl (run_l tabOk ?_); conv => whnf) | (refine wl_rem rfl rfl rfl rfl rfl rfl (by omega) (by omega) (fun r hr hr0 hr1 hr2 => run_l tabOk ?_); conv => whnf) | (refine wl_quo rfl rfl rfl rfl rfl rfl (by omega) (by omega) (by simp only [inK]; omega) (run_l tabOk ?_); conv => whnf) | (refine wl_mul rfl rfl rfl rfl rfl rfl (by omega) (by omega) (run_l tabOk ?_); conv => whnf) | (refine gs_dt (by first | assumption | omega) ?_; conv => whnf) | (refine gs_df (by first | assumption | omega) ?_; conv => whnf) | (refine gs_t (by assumption) ?_; conv => whnf) | (refine gs_f (by assumption) ?_; conv => whnf) | (refine gs_d (fun hg => ?_) (fun hg => ?_) <;> conv => whnf) | (refine gs_n (fun hg => ?_) (fun hg => ?_) <;> conv => whnf) | (refine gs_nb (fun hg => ?_) (fun hg => ?_) <;> conv => whnf) | (refine gs_b (fun hg => ?_) (fun hg => ?_) <;> conv => whnf) | refine fin1 rfl rfl ?_))
      refine wl_bs tabOk 66 4 rfl rfl rfl rfl rfl rfl rfl rfl rfl rfl ?_
      intro gm ua hnm
      refine run_l tabOk ?_
      conv => whnf
      have hAa := hA.up hnm.below
      have hBa := bup hB hnm.below
      obtain ⟨⟨fy, hown, hel⟩, _, _⟩ := id hAa.y
      refine wl_ap tabOk 66 4 48 hown hnm.blk rfl rfl rfl rfl rfl rfl rfl rfl rfl rfl rfl rfl (by simp [Value.oneCell']) (by omega) (by omega) hBa.size ?_
      intro E ec ub hown2 hgm hob
      have b2 := (hgm.block g9 (blk_lt hAa.b9) (fun e => by have := hAa.yo g9 e.symm; have := hAa.o9; omega)).trans hAa.b9
      refine run_l tabOk ?_
      conv => whnf
      refine wl_S (off := 2) (v := .slice E ((apCons j).length + 1) ec) tabOk b2 rfl rfl rfl rfl rfl rfl (by simp) rfl rfl ?_
      intro uc hpc
      refine run_l tabOk ?_
      conv => whnf
      have hBc := below_push hBa (by omega : w1.heap.size ≤ g9) hAa.y.olt hgm hpc
      have hAc := hAa.pushY (y := ⟨1, 2 + ((j : Nat) : Int), 1 + ((j : Nat) : Int), []⟩) hel hown2 hgm hob hpc rfl (fun w' => dCon_nil _ 1 (2 + (j : Int)) (1 + (j : Int)) (by decide) (by omega) (by omega))
      rw [← apCons_next] at hAc
      clear hpc b2 hob hgm hown2 hel hown hAa hBa hnm hA hB
      have hA := hAc
      have hB := hBc
      clear hAc hBc
      (repeat' (first | (refine wl_Lg tabOk hA.b10 rfl rfl rfl rfl rfl rfl rfl (run_l tabOk ?_); conv => whnf) | (refine wl_add rfl rfl rfl rfl rfl rfl (by omega) (by omega) (run_l tabOk ?_); conv => whnf) | (refine wl_sub rfl rfl rfl rfl rfl rfl (by omega) (by omega) (run_l tabOk ?_); conv => whnf) | (refine wl_cvA tabOk rfl rfl rfl (by simp only [inK]; omega) rfl rfl rfl (run_l tabOk ?_); conv => whnf) | (refine wl_cvB tabOk rfl rfl rfl rfl rfl rfl (run_l tabOk ?_); conv => whnf) | (refine wl_rem rfl rfl rfl rfl rfl rfl (by omega) (by omega) (fun r hr hr0 hr1 hr2 => run_l tabOk ?_); conv => whnf) | (refine wl_quo rfl rfl rfl rfl rfl rfl (by omega) (by omega) (by simp only [inK]; omega) (run_l tabOk ?_); conv => whnf) | (refine wl_mul rfl rfl rfl rfl rfl rfl (by omega) (by omega) (run_l tabOk ?_); conv => whnf) | (refine gs_dt (by first | assumption | omega) ?_; conv => whnf) | (refine gs_df (by first | assumption | omega) ?_; conv => whnf) | (refine gs_t (by assumption) ?_; conv => whnf) | (refine gs_f (by assumption) ?_; conv => whnf) | (refine gs_d (fun hg => ?_) (fun hg => ?_) <;> conv => whnf) | (refine gs_n (fun hg => ?_) (fun hg => ?_) <;> conv => whnf) | (refine gs_nb (fun hg => ?_) (fun hg => ?_) <;> conv => whnf) | (refine gs_b (fun hg => ?_) (fun hg => ?_) <;> conv => whnf) | refine fin1 rfl rfl ?_))
      refine wl_bs tabOk 3 1 rfl rfl rfl rfl rfl rfl rfl rfl rfl rfl ?_
      intro gm ua hnm
      refine run_l tabOk ?_
      conv => whnf
      have hAa := hA.up hnm.below
      have hBa := bup hB hnm.below
      obtain ⟨⟨fy, hown, hel⟩, _, _⟩ := id hAa.c
      refine wl_ap tabOk 3 1 8 hown hnm.blk rfl rfl rfl rfl rfl rfl rfl rfl rfl rfl rfl rfl (by simp [Value.oneCell']) (by omega) (by omega) hBa.size ?_
      intro E ec ub hown2 hgm hob
      have b2 := (hgm.block g10 (blk_lt hAa.b10) (fun e => by have := hAa.co g10 e.symm; have := hAa.o10; omega)).trans hAa.b10
      refine run_l tabOk ?_
      conv => whnf
      refine wl_S (off := 3) (v := .slice E ((apArgs 2 j).length + 1) ec) tabOk b2 rfl rfl rfl rfl rfl rfl (by simp) rfl rfl ?_
      intro uc hpc
      refine run_l tabOk ?_
      conv => whnf
      have hBc := below_push hBa (by omega : w1.heap.size ≤ g10) hAa.c.olt hgm hpc
      have hAc := hAa.pushC (z := 2 + ((j : Nat) : Int)) hel hown2 hgm hob hpc (by omega)
      rw [← apArgs_next] at hAc
      clear hpc b2 hob hgm hown2 hel hown hAa hBa hnm hA hB
      have hA := hAc
      have hB := hBc
      clear hAc hBc
      (repeat' (first | (refine wl_add rfl rfl rfl rfl rfl rfl (by omega) (by omega) (run_l tabOk ?_); conv => whnf) | (refine wl_sub rfl rfl rfl rfl rfl rfl (by omega) (by omega) (run_l tabOk ?_); conv => whnf) | (refine wl_cvA tabOk rfl rfl rfl (by simp only [inK]; omega) rfl rfl rfl (run_l tabOk ?_); conv => whnf) | (refine wl_cvB tabOk rfl rfl rfl rfl rfl rfl (run_l tabOk ?_); conv => whnf) | (refine wl_rem rfl rfl rfl rfl rfl rfl (by omega) (by omega) (fun r hr hr0 hr1 hr2 => run_l tabOk ?_); conv => whnf) | (refine wl_quo rfl rfl rfl rfl rfl rfl (by omega) (by omega) (by simp only [inK]; omega) (run_l tabOk ?_); conv => whnf) | (refine wl_mul rfl rfl rfl rfl rfl rfl (by omega) (by omega) (run_l tabOk ?_); conv => whnf) | (refine gs_dt (by first | assumption | omega) ?_; conv => whnf) | (refine gs_df (by first | assumption | omega) ?_; conv => whnf) | (refine gs_t (by assumption) ?_; conv => whnf) | (refine gs_f (by assumption) ?_; conv => whnf) | (refine gs_d (fun hg => ?_) (fun hg => ?_) <;> conv => whnf) | (refine gs_n (fun hg => ?_) (fun hg => ?_) <;> conv => whnf) | (refine gs_nb (fun hg => ?_) (fun hg => ?_) <;> conv => whnf) | (refine gs_b (fun hg => ?_) (fun hg => ?_) <;> conv => whnf) | refine fin1 rfl rfl ?_))
      exact ⟨(j + 1, _, _, _), ⟨rfl, rfl, rfl, rfl, rfl, rfl, trivial⟩, ⟨by simp only; omega, ⟨_, hA⟩, hB⟩, by simp only; omega⟩
    · have hjn' : j = n := by omega
      subst hjn'
      have hjj : ¬ ((j : Nat) : Int) < (j : Nat) := by omega
      have lx := apCells_len i j
      have ly := apCons_len j
      have lz := apArgs_len 2 j
      (repeat' (first | (refine wl_Lg tabOk hA.b9 rfl rfl rfl rfl rfl rfl rfl (run_l tabOk ?_); conv => whnf) | (refine wl_add rfl rfl rfl rfl rfl rfl (by omega) (by omega) (run_l tabOk ?_); conv => whnf) | (refine wl_sub rfl rfl rfl rfl rfl rfl (by omega) (by omega) (run_l tabOk ?_); conv => whnf) | (refine wl_cvA tabOk rfl rfl rfl (by simp only [inK]; omega) rfl rfl rfl (run_l tabOk ?_); conv => whnf) | (refine wl_cvB tabOk rfl rfl rfl rfl rfl rfl (run_l tabOk ?_); conv => whnf) | (refine wl_rem rfl rfl rfl rfl rfl rfl (by omega) (by omega) (fun r hr hr0 hr1 hr2 => run_l tabOk ?_); conv => whnf) | (refine wl_quo rfl rfl rfl rfl rfl rfl (by omega) (by omega) (by simp only [inK]; omega) (run_l tabOk ?_); conv => whnf) | (refine wl_mul rfl rfl rfl rfl rfl rfl (by omega) (by omega) (run_l tabOk ?_); conv => whnf) | (refine gs_dt (by first | assumption | omega) ?_; conv => whnf) | (refine gs_df (by first | assumption | omega) ?_; conv => whnf) | (refine gs_t (by assumption) ?_; conv => whnf) | (refine gs_f (by assumption) ?_; conv => whnf) | (refine gs_d (fun hg => ?_) (fun hg => ?_) <;> conv => whnf) | (refine gs_n (fun hg => ?_) (fun hg => ?_) <;> conv => whnf) | (refine gs_nb (fun hg => ?_) (fun hg => ?_) <;> conv => whnf) | (refine gs_b (fun hg => ?_) (fun hg => ?_) <;> conv => whnf) | refine fin1 rfl rfl ?_))
      refine wl_bs tabOk 71 3 rfl rfl rfl rfl rfl rfl rfl rfl rfl rfl ?_
      intro gm ua hnm
      refine run_l tabOk ?_
      conv => whnf
      have hAa := hA.up hnm.below
      have hBa := bup hB hnm.below
      obtain ⟨⟨fy, hown, hel⟩, _, _⟩ := id hAa.x
      refine wl_ap tabOk 71 3 40 hown hnm.blk rfl rfl rfl rfl rfl rfl rfl rfl rfl rfl rfl rfl (by simp [Value.oneCell']) (by omega) (by omega) hBa.size ?_
      intro E ec ub hown2 hgm hob
      have b2 := (hgm.block g9 (blk_lt hAa.b9) (fun e => by have := hAa.xo g9 e.symm; have := hAa.o9; omega)).trans hAa.b9
      refine run_l tabOk ?_
      conv => whnf
      refine wl_S (off := 1) (v := .slice E ((apCells i j).length + 1) ec) tabOk b2 rfl rfl rfl rfl rfl rfl (by simp) rfl rfl ?_
      intro uc hpc
      refine run_l tabOk ?_
      conv => whnf
      have hBc := below_push hBa (by omega : w1.heap.size ≤ g9) hAa.x.olt hgm hpc
      have hAc := hAa.pushX (x := ⟨false, 29, []⟩) hel hown2 hgm hob hpc rfl (fun w' => dCell_nil _ _ _ (by show (-9223372036854775808 : Int) ≤ _; omega) (by show _ ≤ (9223372036854775807 : Int); omega))
      clear hpc b2 hob hgm hown2 hel hown hAa hBa hnm hA hB
      have hA := hAc
      have hB := hBc
      clear hAc hBc
      have hxs : apCells i j ++ [⟨false, 29, []⟩] = apXs i j := rfl
      rw [hxs] at hA
      (repeat' (first | (refine wl_Lg tabOk hA.b9 rfl rfl rfl rfl rfl rfl rfl (run_l tabOk ?_); conv => whnf) | (refine wl_Lag tabOk hA.b10 rfl rfl rfl rfl rfl rfl (run_l tabOk ?_); conv => whnf) | (refine wl_add rfl rfl rfl rfl rfl rfl (by omega) (by omega) (run_l tabOk ?_); conv => whnf) | (refine wl_sub rfl rfl rfl rfl rfl rfl (by omega) (by omega) (run_l tabOk ?_); conv => whnf) | (refine wl_cvA tabOk rfl rfl rfl (by simp only [inK]; omega) rfl rfl rfl (run_l tabOk ?_); conv => whnf) | (refine wl_cvB tabOk rfl rfl rfl rfl rfl rfl (run_l tabOk ?_); conv => whnf) | (refine wl_rem rfl rfl rfl rfl rfl rfl (by omega) (by omega) (fun r hr hr0 hr1 hr2 => run_l tabOk ?_); conv => whnf) | (refine wl_quo rfl rfl rfl rfl rfl rfl (by omega) (by omega) (by simp only [inK]; omega) (run_l tabOk ?_); conv => whnf) | (refine wl_mul rfl rfl rfl rfl rfl rfl (by omega) (by omega) (run_l tabOk ?_); conv => whnf) | (refine gs_dt (by first | assumption | omega) ?_; conv => whnf) | (refine gs_df (by first | assumption | omega) ?_; conv => whnf) | (refine gs_t (by assumption) ?_; conv => whnf) | (refine gs_f (by assumption) ?_; conv => whnf) | (refine gs_d (fun hg => ?_) (fun hg => ?_) <;> conv => whnf) | (refine gs_n (fun hg => ?_) (fun hg => ?_) <;> conv => whnf) | (refine gs_nb (fun hg => ?_) (fun hg => ?_) <;> conv => whnf) | (refine gs_b (fun hg => ?_) (fun hg => ?_) <;> conv => whnf) | refine fin1 rfl rfl ?_))
      refine wl_bs tabOk 66 4 rfl rfl rfl rfl rfl rfl rfl rfl rfl rfl ?_
      intro gm ua hnm
      refine run_l tabOk ?_
      conv => whnf
      have hAa := hA.up hnm.below
      have hBa := bup hB hnm.below
      obtain ⟨⟨fy, hown, hel⟩, _, _⟩ := id hAa.y
      refine wl_ap tabOk 66 4 48 hown hnm.blk rfl rfl rfl rfl rfl rfl rfl rfl rfl rfl rfl rfl (by obtain ⟨_, _, hv, _⟩ := hAa.c.row; simp [hv, Value.oneCell']) (by omega) (by omega) hBa.size ?_
      intro E ec ub hown2 hgm hob
      have b2 := (hgm.block g9 (blk_lt hAa.b9) (fun e => by have := hAa.yo g9 e.symm; have := hAa.o9; omega)).trans hAa.b9
      refine run_l tabOk ?_
      conv => whnf
      refine wl_S (off := 2) (v := .slice E ((apCons j).length + 2) ec) tabOk b2 rfl rfl rfl rfl rfl rfl (by simp) rfl rfl ?_
      intro uc hpc
      refine run_l tabOk ?_
      conv => whnf
      have hBc := below_push hBa (by omega : w1.heap.size ≤ g9) hAa.y.olt hgm hpc
      have b9 := hpc.blk
      have x2 := (hAa.x.keepO hgm hAa.yo (fun k hk e => by have := hAa.xo k hk; omega) (fun b hb e => by have := hAa.bo b hb; omega)).other hpc.grown (fun b hb e => by have h1 := hAa.bo b hb; have h2 := hAa.o9; rw [e] at h1; omega) (fun k hk e => by have h1 := hAa.xo k hk; have h2 := hAa.o9; rw [e] at h1; omega)
      have c2 := (hAa.c.keepO hgm hAa.yo (fun k hk e => by have := hAa.co k hk; omega) (by simp)).other hpc.grown (by simp) (fun k hk e => by have h1 := hAa.co k hk; have h2 := hAa.o9; rw [e] at h1; omega)
      obtain ⟨C1, cc1, hvc, hcc, hqc⟩ := c2.row
      obtain ⟨A1, c1, hvx, _, hq1⟩ := x2.row
      have hV := own_after (j := 4) hAa.y.olt hAa.yo hob
      have hown3 := hown2.kept hpc.grown (.inr fun e => by
        have h1 := hV g9 e
        rw [newO_old (blk_lt hAa.b9)] at h1
        have := hAa.o9
        omega)
      have hel3 : Elems 4 dCon uc (fy ++ [.int .u8 5, .int .i64 (apA false), .int .i64 0, vc, .int .u8 1, .int .i64 10, .int .i64 ((j : Int) + 1), .slice none 0 0]) (apYs false j) := by
        have h1 := ((hel uc (by simp)).push (x := (⟨5, apA false, 0, apArgs 2 j⟩ : Con)) (cs := [.int .u8 5, .int .i64 (apA false), .int .i64 0, vc]) rfl ⟨C1, cc1, by rw [hvc], hcc, hqc, (by show (0 : Int) ≤ 5 ∧ (5 : Int) ≤ 255; decide), (by show (-9223372036854775808 : Int) ≤ apA false ∧ apA false ≤ 9223372036854775807; decide), (by show (-9223372036854775808 : Int) ≤ 0 ∧ (0 : Int) ≤ 9223372036854775807; decide)⟩).push (x := (⟨1, 10, (j : Int) + 1, []⟩ : Con)) (cs := [.int .u8 1, .int .i64 10, .int .i64 ((j : Int) + 1), .slice none 0 0]) rfl (dCon_nil _ 1 10 ((j : Int) + 1) (by decide) (by decide) (by omega))
        rw [List.append_assoc, List.append_assoc] at h1
        exact h1
      obtain ⟨A2, c2', hE, _, hq2⟩ := row_of_own hown3 (by rw [apYs_len, apCons_len]) hel3
      rw [hE, hvx] at b9
      clear hAa hA hown hown2 hown3 hel hel3 hgm hob hV hpc hnm b2 x2 c2
      (repeat' (first | (refine wl_Lg tabOk b9 rfl rfl rfl rfl rfl rfl rfl (run_l tabOk ?_); conv => whnf) | (refine wl_Lag tabOk b9 rfl rfl rfl rfl rfl rfl (run_l tabOk ?_); conv => whnf) | (refine wl_add rfl rfl rfl rfl rfl rfl (by omega) (by omega) (run_l tabOk ?_); conv => whnf) | (refine wl_sub rfl rfl rfl rfl rfl rfl (by omega) (by omega) (run_l tabOk ?_); conv => whnf) | (refine wl_cvA tabOk rfl rfl rfl (by simp only [inK]; omega) rfl rfl rfl (run_l tabOk ?_); conv => whnf) | (refine wl_cvB tabOk rfl rfl rfl rfl rfl rfl (run_l tabOk ?_); conv => whnf) | (refine wl_rem rfl rfl rfl rfl rfl rfl (by omega) (by omega) (fun r hr hr0 hr1 hr2 => run_l tabOk ?_); conv => whnf) | (refine wl_quo rfl rfl rfl rfl rfl rfl (by omega) (by omega) (by simp only [inK]; omega) (run_l tabOk ?_); conv => whnf) | (refine wl_mul rfl rfl rfl rfl rfl rfl (by omega) (by omega) (run_l tabOk ?_); conv => whnf) | (refine gs_dt (by first | assumption | omega) ?_; conv => whnf) | (refine gs_df (by first | assumption | omega) ?_; conv => whnf) | (refine gs_t (by assumption) ?_; conv => whnf) | (refine gs_f (by assumption) ?_; conv => whnf) | (refine gs_d (fun hg => ?_) (fun hg => ?_) <;> conv => whnf) | (refine gs_n (fun hg => ?_) (fun hg => ?_) <;> conv => whnf) | (refine gs_nb (fun hg => ?_) (fun hg => ?_) <;> conv => whnf) | (refine gs_b (fun hg => ?_) (fun hg => ?_) <;> conv => whnf) | refine fin1 rfl rfl ?_))
      refine wl_C fn34 (solveLeast 30 (apXs i j) (apYs false j) A1 A2 c1 c2' uc hq1 hq2 (apRight hp4 hn4) (hT.up (bup hB1 hBc))) rfl rfl rfl rfl rfl rfl rfl ?_
      rintro _ ud ⟨M, Ap', cap, q, rfl, hIL, hrr, _, _, hBd⟩
      have hM := hIL.unique (apLeast (res := false) hp4 hn4)
      subst hM
      have hpl := pts_len (apM_sh false i j)
      have hBz := bup hBc hBd
      refine ⟨_, rfl, run_l tabOk ?_⟩
      conv => whnf
      (repeat' (first | (refine wl_add rfl rfl rfl rfl rfl rfl (by omega) (by omega) (run_l tabOk ?_); conv => whnf) | (refine wl_sub rfl rfl rfl rfl rfl rfl (by omega) (by omega) (run_l tabOk ?_); conv => whnf) | (refine wl_cvA tabOk rfl rfl rfl (by simp only [inK]; omega) rfl rfl rfl (run_l tabOk ?_); conv => whnf) | (refine wl_cvB tabOk rfl rfl rfl rfl rfl rfl (run_l tabOk ?_); conv => whnf) | (refine wl_rem rfl rfl rfl rfl rfl rfl (by omega) (by omega) (fun r hr hr0 hr1 hr2 => run_l tabOk ?_); conv => whnf) | (refine wl_quo rfl rfl rfl rfl rfl rfl (by omega) (by omega) (by simp only [inK]; omega) (run_l tabOk ?_); conv => whnf) | (refine wl_mul rfl rfl rfl rfl rfl rfl (by omega) (by omega) (run_l tabOk ?_); conv => whnf) | (refine gs_dt (by first | assumption | omega) ?_; conv => whnf) | (refine gs_df (by first | assumption | omega) ?_; conv => whnf) | (refine gs_t (by assumption) ?_; conv => whnf) | (refine gs_f (by assumption) ?_; conv => whnf) | (refine gs_d (fun hg => ?_) (fun hg => ?_) <;> conv => whnf) | (refine gs_n (fun hg => ?_) (fun hg => ?_) <;> conv => whnf) | (refine gs_nb (fun hg => ?_) (fun hg => ?_) <;> conv => whnf) | (refine gs_b (fun hg => ?_) (fun hg => ?_) <;> conv => whnf) | refine fin1 rfl rfl ?_))
      refine lp_loop tabOk (X := Nat) (fun k => [(2, .bool false), (7, .int .i64 i), (8, .int .i64 j), (13, .slice Ap' 30 cap), (16, .int .i64 k)]) (fun k ws => k ≤ i ∧ Below ud.heap.size ud ws) (fun k => i - k) 0 ⟨rfl, rfl, rfl, rfl, rfl, trivial⟩ ⟨by omega, Below.refl _ _⟩ ?_
      rintro k G ws ⟨hk, hBs⟩
      conv => whnf
      by_cases hki : k < i
      · have hkk : ((k : Nat) : Int) < (i : Nat) := by omega
        obtain ⟨x, ad, D, dc, hx, rfl, f1, hdc, hxr⟩ := rowsE (hrr.up stays_Ints hBs) (11 + (k : Int)).toNat (by omega)
        have hxv : x = if k < j then [1 + (k : Int)] else [] := by
          rw [← hx.out, show (11 + (k : Int)).toNat = 11 + k by omega, pts_at (apM_sh false i j) (by omega)]
          exact apRowP hp4 hn4 hki
        by_cases hkj : k < j
        · have hkj' : ((k : Nat) : Int) < (j : Nat) := by omega
          rw [if_pos hkj] at hxv
          subst hxv
          (repeat' (first | (refine wl_L tabOk rfl rfl rfl rfl rfl rfl f1 (run_l tabOk ?_); conv => whnf) | (refine wl_X tabOk 46 1 rfl rfl rfl rfl rfl rfl rfl (by omega) (by omega) (run_l tabOk ?_); conv => whnf) | (refine wl_add rfl rfl rfl rfl rfl rfl (by omega) (by omega) (run_l tabOk ?_); conv => whnf) | (refine wl_sub rfl rfl rfl rfl rfl rfl (by omega) (by omega) (run_l tabOk ?_); conv => whnf) | (refine wl_cvA tabOk rfl rfl rfl (by simp only [inK]; omega) rfl rfl rfl (run_l tabOk ?_); conv => whnf) | (refine wl_cvB tabOk rfl rfl rfl rfl rfl rfl (run_l tabOk ?_); conv => whnf) | (refine wl_rem rfl rfl rfl rfl rfl rfl (by omega) (by omega) (fun r hr hr0 hr1 hr2 => run_l tabOk ?_); conv => whnf) | (refine wl_quo rfl rfl rfl rfl rfl rfl (by omega) (by omega) (by simp only [inK]; omega) (run_l tabOk ?_); conv => whnf) | (refine wl_mul rfl rfl rfl rfl rfl rfl (by omega) (by omega) (run_l tabOk ?_); conv => whnf) | (refine gs_dt (by first | assumption | omega) ?_; conv => whnf) | (refine gs_df (by first | assumption | omega) ?_; conv => whnf) | (refine gs_t (by assumption) ?_; conv => whnf) | (refine gs_f (by assumption) ?_; conv => whnf) | (refine gs_d (fun hg => ?_) (fun hg => ?_) <;> conv => whnf) | (refine gs_n (fun hg => ?_) (fun hg => ?_) <;> conv => whnf) | (refine gs_nb (fun hg => ?_) (fun hg => ?_) <;> conv => whnf) | (refine gs_b (fun hg => ?_) (fun hg => ?_) <;> conv => whnf) | refine fin1 rfl rfl ?_))
          refine wl_bs tabOk 3 1 rfl rfl rfl rfl rfl rfl rfl rfl rfl rfl ?_
          intro gq ut hnq
          refine run_l tabOk ?_
          conv => whnf
          have hri : RI ut (some ⟨gq, 0, none⟩) [1 + (k : Int)] := row_of_blk hnq.blk (Elems.one rfl ⟨rfl, by show (-9223372036854775808 : Int) ≤ _; omega, by show _ ≤ (9223372036854775807 : Int); omega⟩) (by simp)
          refine wl_C fn39 (refSameInts [1 + (k : Int)] [1 + (k : Int)] D (some ⟨gq, 0, none⟩) dc 1 ut (hxr.out.up (stays_I _) hnq.below) hri) rfl rfl rfl rfl rfl rfl rfl ?_
          rintro _ uv ⟨rfl, hBv⟩
          rw [sameI_refl]
          refine ⟨_, rfl, run_l tabOk ?_⟩
          conv => whnf
          (repeat' (first | (refine wl_add rfl rfl rfl rfl rfl rfl (by omega) (by omega) (run_l tabOk ?_); conv => whnf) | (refine wl_sub rfl rfl rfl rfl rfl rfl (by omega) (by omega) (run_l tabOk ?_); conv => whnf) | (refine wl_cvA tabOk rfl rfl rfl (by simp only [inK]; omega) rfl rfl rfl (run_l tabOk ?_); conv => whnf) | (refine wl_cvB tabOk rfl rfl rfl rfl rfl rfl (run_l tabOk ?_); conv => whnf) | (refine wl_rem rfl rfl rfl rfl rfl rfl (by omega) (by omega) (fun r hr hr0 hr1 hr2 => run_l tabOk ?_); conv => whnf) | (refine wl_quo rfl rfl rfl rfl rfl rfl (by omega) (by omega) (by simp only [inK]; omega) (run_l tabOk ?_); conv => whnf) | (refine wl_mul rfl rfl rfl rfl rfl rfl (by omega) (by omega) (run_l tabOk ?_); conv => whnf) | (refine gs_dt (by first | assumption | omega) ?_; conv => whnf) | (refine gs_df (by first | assumption | omega) ?_; conv => whnf) | (refine gs_t (by assumption) ?_; conv => whnf) | (refine gs_f (by assumption) ?_; conv => whnf) | (refine gs_d (fun hg => ?_) (fun hg => ?_) <;> conv => whnf) | (refine gs_n (fun hg => ?_) (fun hg => ?_) <;> conv => whnf) | (refine gs_nb (fun hg => ?_) (fun hg => ?_) <;> conv => whnf) | (refine gs_b (fun hg => ?_) (fun hg => ?_) <;> conv => whnf) | refine fin1 rfl rfl ?_))
          exact ⟨k + 1, ⟨rfl, rfl, rfl, rfl, rfl, trivial⟩, ⟨by omega, bup hBs (bup hnq.below hBv)⟩, by omega⟩
        · have hkj' : ¬ ((k : Nat) : Int) < (j : Nat) := by omega
          rw [if_neg hkj] at hxv
          subst hxv
          (repeat' (first | (refine wl_L tabOk rfl rfl rfl rfl rfl rfl f1 (run_l tabOk ?_); conv => whnf) | (refine wl_X tabOk 46 1 rfl rfl rfl rfl rfl rfl rfl (by omega) (by omega) (run_l tabOk ?_); conv => whnf) | (refine wl_add rfl rfl rfl rfl rfl rfl (by omega) (by omega) (run_l tabOk ?_); conv => whnf) | (refine wl_sub rfl rfl rfl rfl rfl rfl (by omega) (by omega) (run_l tabOk ?_); conv => whnf) | (refine wl_cvA tabOk rfl rfl rfl (by simp only [inK]; omega) rfl rfl rfl (run_l tabOk ?_); conv => whnf) | (refine wl_cvB tabOk rfl rfl rfl rfl rfl rfl (run_l tabOk ?_); conv => whnf) | (refine wl_rem rfl rfl rfl rfl rfl rfl (by omega) (by omega) (fun r hr hr0 hr1 hr2 => run_l tabOk ?_); conv => whnf) | (refine wl_quo rfl rfl rfl rfl rfl rfl (by omega) (by omega) (by simp only [inK]; omega) (run_l tabOk ?_); conv => whnf) | (refine wl_mul rfl rfl rfl rfl rfl rfl (by omega) (by omega) (run_l tabOk ?_); conv => whnf) | (refine gs_dt (by first | assumption | omega) ?_; conv => whnf) | (refine gs_df (by first | assumption | omega) ?_; conv => whnf) | (refine gs_t (by assumption) ?_; conv => whnf) | (refine gs_f (by assumption) ?_; conv => whnf) | (refine gs_d (fun hg => ?_) (fun hg => ?_) <;> conv => whnf) | (refine gs_n (fun hg => ?_) (fun hg => ?_) <;> conv => whnf) | (refine gs_nb (fun hg => ?_) (fun hg => ?_) <;> conv => whnf) | (refine gs_b (fun hg => ?_) (fun hg => ?_) <;> conv => whnf) | refine fin1 rfl rfl ?_))
          exact ⟨k + 1, ⟨rfl, rfl, rfl, rfl, rfl, trivial⟩, ⟨by omega, hBs⟩, by omega⟩
      · have hkk : ¬ ((k : Nat) : Int) < (i : Nat) := by omega
        obtain ⟨x, ad, D, dc, hx, rfl, f1, hdc, hxr⟩ := rowsE (hrr.up stays_Ints hBs) 1 (by omega)
        have hxv : x = if false = true then [(j : Int) + 1] else [] := by
          rw [← hx.out, pts_at (apM_sh false i j) (by omega)]
          exact apRow1 hn4
        rw [if_neg (by decide)] at hxv
        subst hxv
        (repeat' (first | (refine wl_L tabOk rfl rfl rfl rfl rfl rfl f1 (run_l tabOk ?_); conv => whnf) | (refine wl_X tabOk 46 1 rfl rfl rfl rfl rfl rfl rfl (by omega) (by omega) (run_l tabOk ?_); conv => whnf) | (refine wl_add rfl rfl rfl rfl rfl rfl (by omega) (by omega) (run_l tabOk ?_); conv => whnf) | (refine wl_sub rfl rfl rfl rfl rfl rfl (by omega) (by omega) (run_l tabOk ?_); conv => whnf) | (refine wl_cvA tabOk rfl rfl rfl (by simp only [inK]; omega) rfl rfl rfl (run_l tabOk ?_); conv => whnf) | (refine wl_cvB tabOk rfl rfl rfl rfl rfl rfl (run_l tabOk ?_); conv => whnf) | (refine wl_rem rfl rfl rfl rfl rfl rfl (by omega) (by omega) (fun r hr hr0 hr1 hr2 => run_l tabOk ?_); conv => whnf) | (refine wl_quo rfl rfl rfl rfl rfl rfl (by omega) (by omega) (by simp only [inK]; omega) (run_l tabOk ?_); conv => whnf) | (refine wl_mul rfl rfl rfl rfl rfl rfl (by omega) (by omega) (run_l tabOk ?_); conv => whnf) | (refine gs_dt (by first | assumption | omega) ?_; conv => whnf) | (refine gs_df (by first | assumption | omega) ?_; conv => whnf) | (refine gs_t (by assumption) ?_; conv => whnf) | (refine gs_f (by assumption) ?_; conv => whnf) | (refine gs_d (fun hg => ?_) (fun hg => ?_) <;> conv => whnf) | (refine gs_n (fun hg => ?_) (fun hg => ?_) <;> conv => whnf) | (refine gs_nb (fun hg => ?_) (fun hg => ?_) <;> conv => whnf) | (refine gs_b (fun hg => ?_) (fun hg => ?_) <;> conv => whnf) | refine fin1 rfl rfl ?_))
        all_goals exact ⟨rfl, bup (bup hB1 hBz) hBs⟩
theorem lawSolveApplies (P1 N1 : Int) (res : Bool) (w : World) (hT : Tab w) (ha : IntKind.u8.min ≤ P1 ∧ P1 ≤ IntKind.u8.max) (hb : IntKind.u8.min ≤ N1 ∧ N1 ≤ IntKind.u8.max) :
    Calls Tryd.prog 15 #[.int .u8 P1, .int .u8 N1, .bool res] w fun e w' => e = .returned (.bool true) ∧ Below w.heap.size w w' := by
  cases res with
  | true => exact lawSolveAppliestrue P1 N1 w hT ha hb
  | false => exact lawSolveAppliesfalse P1 N1 w hT ha hb
end Go.Proofs.YtkjbkalakafnlaaDoor
