/- Several texts of one claim in one file: SF20 SG20 SO20. -/
import Derived.Test.YtkjbkalakafnlaaDoorZ11
import Derived.Test.YtkjbkalakafnlaaDoorZ12
import Derived.Test.YtkjbkalakafnlaaDoorZ9
import Derived.Test.YtkjbkalakafnlaaDoorZ7
/- solve: flow. -/
namespace Go.Proofs.YtkjbkalakafnlaaDoor
open Go.RowKit
set_option linter.unusedVariables false
set_option linter.unusedSimpArgs false
set_option maxRecDepth 100000
theorem blk_len {bs : List Blk} (hw : WFB bs) {N : Nat} (h : ∀ o, memB bs o = true → o < N) : bs.length ≤ N := by
  have key : ∀ i, i < bs.length → (i : Int) ≤ bs[i]!.a := by
    intro i
    induction i with
    | zero => intro hi; exact (hw.rng _ (mem_getB hi)).1
    | succ i ih =>
      intro hi
      have h1 := ih (by omega)
      have h2 := hw.up i (i + 1) (by omega) hi
      omega
  rcases Nat.eq_zero_or_pos bs.length with h0 | h0
  · omega
  · have h1 := key (bs.length - 1) (by omega)
    have hm := mem_getB (bs := bs) (i := bs.length - 1) (by omega)
    have hr := hw.rng _ hm
    obtain ⟨j, hj, hb⟩ := bit_some hr.2.2.1 hr.2.2.2
    have hn := num_div bs[bs.length - 1]!.a hr.1 j hj
    have := h (64 * bs[bs.length - 1]!.a.toNat + j) (memB_iff.2 ⟨_, hm, hn.1.symm, by rw [hn.2]; exact hb⟩)
    omega
/-- What a step of the solver leaves. -/
structure SR (c : Cx) (O : Nat → Nat) (w : World) (m : Mem) (w' : World) (R : St → St → Prop) : Prop where
  ex : ∃ O' m', SV c O' w' m' ∧ Stp O O' w w' ∧ R m.st m'.st ∧ m'.fr = m.fr ∧ m'.Vr = m.Vr
/-- The set in v becomes bs'. -/
theorem SV.joined {c : Cx} {O O1 : Nat → Nat} {w w1 w2 : World} {m : Mem} {v : Nat} {bs' : List Blk} {fp fp' : List Nat} {rb : List Nat} (h : SV c O w1 m) (hv : v < c.n) (hk : Kept rb w1 w2) (hrb : ∀ b ∈ rb, O b = 100 + 4 * v)
    (hP : PSet c.base (m.gi v) w2 bs' fp') (hnew : ∀ b ∈ fp', O b = 100 + 4 * v ∨ w1.heap.size ≤ b) : ∃ O2, SV c O2 w2 { m with bi := setN m.bi v bs' } ∧ Stp O O2 w1 w2 := by
  have a := (AS.start h.all).put (k := 100 + 4 * v) (P := comp7 c { m with bi := setN m.bi v bs' } v 0) (.inr (by omega)) hk (fun b hb _ => hrb b hb) (fp := fp') (fun b hb => ⟨fun hlt => (hnew b hb).elim id (fun h3 => by omega), (hP.lt b hb).2⟩) (fun w' hw' => by
    refine ⟨fun _ _ => ?_, fun e => absurd e (by omega), fun e => absurd e (by omega), fun e => absurd e (by omega)⟩
    show PSet c.base (m.gi v) w' (setN m.bi v bs' v) fp'
    rw [setN_at]
    exact hP.keep hw')
  refine ⟨_, ⟨a.all.imp fun j fp w' hj => ?_, a.stp.low h.low h.sz, Nat.le_trans h.sz a.stp.size, h.hk, h.nd, h.wl, h.hn, h.hx⟩, a.stp⟩
  unfold updF at hj
  split at hj
  · rename_i e
    subst e
    have := comp_at (c := c) (m := { m with bi := setN m.bi v bs' }) v 0 (by omega)
    rw [Nat.add_zero] at this
    rw [this]
    exact hj
  rename_i ne
  refine comp_up (m := m) j hj rfl (fun _ => rfl) (fun _ => ⟨rfl, rfl⟩) (fun _ => ⟨rfl, rfl⟩) (fun _ => ⟨rfl, rfl⟩) (fun _ => ⟨rfl, rfl⟩) (fun _ => ⟨rfl, rfl⟩) (fun _ => ⟨rfl, rfl⟩) (fun x e => ⟨rfl, setN_ne _ _ (fun e2 => ne (by subst e2; exact e))⟩) (fun _ _ => ⟨rfl, rfl⟩) (fun _ _ => ⟨rfl, rfl⟩) (fun _ _ => ⟨rfl, rfl⟩)
set_option maxHeartbeats 4000000 in
theorem sFlow {c : Cx} {O : Nat → Nat} {w : World} {m : Mem} (h : SV c O w m) (hd : Dom c.n c.xs.length m.st) (v : Nat) (hv : v < c.n) {b2 g2 : Nat} {l : List Blk} {f2 : List Nat} (hQ : PSet b2 g2 w l f2) (hl : ∀ o, memB l o = true → o < c.xs.length) :
    Calls Tryd.prog 63 #[.pointer (some ⟨c.gx, 0, none⟩), .int .i64 (v : Int), .pointer (some ⟨g2, 0, none⟩)] w fun e w' => e = .returned (.tuple #[]) ∧ SR c O w m w' (FlowR v (memB l)) := by
  obtain ⟨hb, hbO⟩ := h.box
  obtain ⟨hri, hriO⟩ := h.rowI
  obtain ⟨gr, cap, cur, hVi, _, hrb, hcell, _, _⟩ := hri.form hv
  obtain ⟨fi, hP, hPO⟩ := h.setI hv
  have hb' := hb
  unfold boxV at hb'
  rw [hVi] at hb'
  have hl1 := blk_len hP.wf (fun o ho => (hd.inn v o ho).2)
  have hl2 := blk_len hQ.wf hl
  have hx := h.hx
  have hc := hcell v hv
  unfold ptrV at hc
  refine enterR (args := [.pointer (some ⟨c.gx, 0, none⟩), .int .i64 (v : Int), .pointer (some ⟨g2, 0, none⟩)]) tabOk Tryd.func63 rfl Tryd.ntmps63 rfl ?_; conv => whnf
  (repeat' (first | (refine wl_Lg tabOk hb' rfl rfl rfl rfl rfl rfl rfl (run_l tabOk ?_); conv => whnf) | (refine wl_L tabOk rfl rfl rfl rfl rfl rfl hc (run_l tabOk ?_); conv => whnf) | (refine wl_Xn tabOk 88 1 rfl rfl rfl rfl rfl rfl rfl (by omega) (run_l tabOk ?_); conv => whnf) | (refine wl_add rfl rfl rfl rfl rfl rfl (by omega) (by omega) (run_l tabOk ?_); conv => whnf) | (refine wl_sub rfl rfl rfl rfl rfl rfl (by omega) (by omega) (run_l tabOk ?_); conv => whnf) | (refine wl_cvA tabOk rfl rfl rfl (by simp only [inK]; omega) rfl rfl rfl (run_l tabOk ?_); conv => whnf) | (refine wl_cvB tabOk rfl rfl rfl rfl rfl rfl (run_l tabOk ?_); conv => whnf) | (refine wl_rem rfl rfl rfl rfl rfl rfl (by omega) (by omega) (fun r hr hr0 hr1 hr2 => run_l tabOk ?_); conv => whnf) | (refine wl_quo rfl rfl rfl rfl rfl rfl (by omega) (by omega) (by simp only [inK]; omega) (run_l tabOk ?_); conv => whnf) | (refine wl_mul rfl rfl rfl rfl rfl rfl (by omega) (by omega) (run_l tabOk ?_); conv => whnf) | (refine gs_dt (by first | assumption | omega) ?_; conv => whnf) | (refine gs_df (by first | assumption | omega) ?_; conv => whnf) | (refine gs_t (by assumption) ?_; conv => whnf) | (refine gs_f (by assumption) ?_; conv => whnf) | (refine gs_d (fun hg => ?_) (fun hg => ?_) <;> conv => whnf) | (refine gs_n (fun hg => ?_) (fun hg => ?_) <;> conv => whnf) | (refine gs_nb (fun hg => ?_) (fun hg => ?_) <;> conv => whnf) | (refine gs_b (fun hg => ?_) (fun hg => ?_) <;> conv => whnf) | refine fin1 rfl rfl ?_))
  refine wl_C fn78 (pJoin hP hQ (by omega) (by omega) h.sz) rfl rfl rfl rfl rfl rfl rfl ?_
  rintro _ w1 ⟨bs', fp', hJ⟩
  rw [hJ.ret]
  refine ⟨_, rfl, run_l tabOk ?_⟩
  conv => whnf
  have hgO : O (m.gi v) = 100 + 4 * v := hPO _ (by obtain ⟨V, _, _, e, _⟩ := hP.ex; rw [e]; simp)
  obtain ⟨O2, h2, s2⟩ := h.joined (O1 := O) (w := w) (fp := fi) hv hJ.kept (by simpa using hgO) hJ.set (fun b hb => (hJ.new b hb).elim (fun e => .inl (by rw [e]; exact hgO)) .inr)
  have hinn : ∀ x o, memB (setN m.bi v bs' x) o = (memB (m.bi x) o || (decide (x = v) && memB l o)) := fun x o => by
    unfold setN
    by_cases e : x = v
    · subst e; rw [if_pos rfl, hJ.mem]; simp
    · rw [if_neg e]; simp [e]
  have hset : memB (setN m.bi v bs' v) = memB bs' := by rw [setN_at]
  (repeat' (first | (refine wl_add rfl rfl rfl rfl rfl rfl (by omega) (by omega) (run_l tabOk ?_); conv => whnf) | (refine wl_sub rfl rfl rfl rfl rfl rfl (by omega) (by omega) (run_l tabOk ?_); conv => whnf) | (refine wl_cvA tabOk rfl rfl rfl (by simp only [inK]; omega) rfl rfl rfl (run_l tabOk ?_); conv => whnf) | (refine wl_cvB tabOk rfl rfl rfl rfl rfl rfl (run_l tabOk ?_); conv => whnf) | (refine wl_rem rfl rfl rfl rfl rfl rfl (by omega) (by omega) (fun r hr hr0 hr1 hr2 => run_l tabOk ?_); conv => whnf) | (refine wl_quo rfl rfl rfl rfl rfl rfl (by omega) (by omega) (by simp only [inK]; omega) (run_l tabOk ?_); conv => whnf) | (refine wl_mul rfl rfl rfl rfl rfl rfl (by omega) (by omega) (run_l tabOk ?_); conv => whnf) | (refine gs_dt (by first | assumption | omega) ?_; conv => whnf) | (refine gs_df (by first | assumption | omega) ?_; conv => whnf) | (refine gs_t (by assumption) ?_; conv => whnf) | (refine gs_f (by assumption) ?_; conv => whnf) | (refine gs_d (fun hg => ?_) (fun hg => ?_) <;> conv => whnf) | (refine gs_n (fun hg => ?_) (fun hg => ?_) <;> conv => whnf) | (refine gs_nb (fun hg => ?_) (fun hg => ?_) <;> conv => whnf) | (refine gs_b (fun hg => ?_) (fun hg => ?_) <;> conv => whnf) | refine fin1 rfl rfl ?_))
  rotate_left
  · have he : bs' = m.bi v := by assumption
    refine fin0 rfl ⟨rfl, ⟨O2, _, h2, s2, ⟨fun x o => hinn x o, rfl, rfl, rfl, .inl ⟨rfl, .inl ?_⟩⟩, rfl, rfl⟩⟩
    funext o
    show memB (setN m.bi v bs' v) o = memB (m.bi v) o
    rw [hset, he]
  · have he : ¬ bs' = m.bi v := by assumption
    refine wl_C fn48 (sPush h2 v hv) rfl rfl rfl rfl rfl rfl rfl ?_
    rintro _ w3 ⟨rfl, O3, V3, h3, s3⟩
    refine ⟨_, rfl, run_l tabOk ?_⟩
    conv => whnf
    refine fin0 rfl ⟨rfl, ⟨O3, _, h3, s2.trans s3, ⟨fun x o => hinn x o, rfl, rfl, rfl, ?_⟩, rfl, rfl⟩⟩
    by_cases hm : v ∈ m.wk
    · exact .inl ⟨if_pos hm, .inr hm⟩
    · refine .inr ⟨if_neg hm, ?_⟩
      apply Classical.byContradiction
      intro hno
      refine he (canonB hJ.set.wf hP.wf fun o => ?_)
      rw [hJ.mem]
      cases h1 : memB (m.bi v) o with
      | true => rfl
      | false =>
        cases h4 : memB l o with
        | false => rfl
        | true => exact absurd ⟨o, h1, h4⟩ hno
end Go.Proofs.YtkjbkalakafnlaaDoor

/- solve: edge. -/
namespace Go.Proofs.YtkjbkalakafnlaaDoor
open Go.RowKit
set_option linter.unusedVariables false
set_option linter.unusedSimpArgs false
set_option maxRecDepth 100000
/-- The set of those into which v goes becomes bs'. -/
theorem SV.toAdded {c : Cx} {O : Nat → Nat} {w1 w2 : World} {m : Mem} {v : Nat} {bs' : List Blk} {fp' : List Nat} {rb : List Nat} (h : SV c O w1 m) (hv : v < c.n) (hk : Kept rb w1 w2) (hrb : ∀ b ∈ rb, O b = 100 + 4 * v + 2)
    (hP : PSet c.base (m.gt v) w2 bs' fp') (hnew : ∀ b ∈ fp', O b = 100 + 4 * v + 2 ∨ w1.heap.size ≤ b) : ∃ O2, SV c O2 w2 { m with bt := setN m.bt v bs' } ∧ Stp O O2 w1 w2 := by
  have a := (AS.start h.all).put (k := 100 + 4 * v + 2) (P := comp7 c { m with bt := setN m.bt v bs' } v 2) (.inr (by omega)) hk (fun b hb _ => hrb b hb) (fp := fp') (fun b hb => ⟨fun hlt => (hnew b hb).elim id (fun h3 => by omega), (hP.lt b hb).2⟩) (fun w' hw' => by
    refine ⟨fun e => absurd e (by omega), fun e => absurd e (by omega), fun _ _ => ?_, fun e => absurd e (by omega)⟩
    show PSet c.base (m.gt v) w' (setN m.bt v bs' v) fp'
    rw [setN_at]
    exact hP.keep hw')
  refine ⟨_, ⟨a.all.imp fun j fp w' hj => ?_, a.stp.low h.low h.sz, Nat.le_trans h.sz a.stp.size, h.hk, h.nd, h.wl, h.hn, h.hx⟩, a.stp⟩
  unfold updF at hj
  split at hj
  · rename_i e
    subst e
    rw [comp_at (c := c) (m := { m with bt := setN m.bt v bs' }) v 2 (by omega)]
    exact hj
  rename_i ne
  refine comp_up (m := m) j hj rfl (fun _ => rfl) (fun _ => ⟨rfl, rfl⟩) (fun _ => ⟨rfl, rfl⟩) (fun _ => ⟨rfl, rfl⟩) (fun _ => ⟨rfl, rfl⟩) (fun _ => ⟨rfl, rfl⟩) (fun _ => ⟨rfl, rfl⟩) (fun _ _ => ⟨rfl, rfl⟩) (fun _ _ => ⟨rfl, rfl⟩) (fun x e => ⟨rfl, setN_ne _ _ (fun e2 => ne (by subst e2; exact e))⟩) (fun _ _ => ⟨rfl, rfl⟩)
/-- What an edge that is asked for brings about. -/
structure EdgeQ (n nc : Nat) (a b : Int) (s t : St) : Prop where
  grow : Grow n nc s t
  dom : Dom n nc t
  there : edgeE t a b
  sound : ∀ S, Sound S s → (0 ≤ a → 0 ≤ b → ∀ N, ClosedM S N → ∀ o, mg N a.toNat o = true → mg N b.toNat o = true) → Sound S t
theorem EdgeQ.none {n nc : Nat} {a b : Int} {s : St} (hd : Dom n nc s) (h : edgeE s a b) : EdgeQ n nc a b s s := ⟨Grow.refl _, hd, h, fun _ hs _ => hs⟩
theorem EdgeR.q {n nc a b : Nat} {s t : St} (h : EdgeR a b s t) (ha : a < n) (hb : b < n) (hd : Dom n nc s) : EdgeQ n nc a b s t :=
  ⟨h.grow ha hb hd, h.dom hd ha hb, fun _ _ => h.there.imp (fun e => by rw [e]) id, fun S hs hf => h.sound hs (hf (by omega) (by omega))⟩
theorem st_ext {s t : St} (h1 : s.inn = t.inn) (h2 : s.don = t.don) (h3 : s.too = t.too) (h4 : s.work = t.work) (h5 : s.pops = t.pops) : s = t := by
  cases s; cases t; simp_all
set_option maxHeartbeats 8000000 in
theorem sEdge {c : Cx} {O : Nat → Nat} {w : World} {m : Mem} (h : SV c O w m) (hd : Dom c.n c.xs.length m.st) (a b : Int) (ha : -9223372036854775808 ≤ a ∧ a < c.n) (hb : -9223372036854775808 ≤ b ∧ b < c.n) :
    Calls Tryd.prog 77 #[.pointer (some ⟨c.gx, 0, none⟩), .int .i64 a, .int .i64 b] w fun e w' => e = .returned (.tuple #[]) ∧ SR c O w m w' (EdgeQ c.n c.xs.length a b) := by
  have stay : ¬ (0 ≤ a ∧ 0 ≤ b ∧ a ≠ b) → SR c O w m w (EdgeQ c.n c.xs.length a b) := fun hno => ⟨O, m, h, Stp.refl _ _, EdgeQ.none hd (fun h0 h1 => .inl (by
    apply Classical.byContradiction
    intro e
    exact hno ⟨h0, h1, e⟩)), rfl, rfl⟩
  by_cases h0 : a < 0
  · refine enterR (args := [.pointer (some ⟨c.gx, 0, none⟩), .int .i64 a, .int .i64 b]) tabOk Tryd.func77 rfl Tryd.ntmps77 rfl ?_; conv => whnf
    (repeat' (first | (refine wl_add rfl rfl rfl rfl rfl rfl (by omega) (by omega) (run_l tabOk ?_); conv => whnf) | (refine wl_sub rfl rfl rfl rfl rfl rfl (by omega) (by omega) (run_l tabOk ?_); conv => whnf) | (refine wl_cvA tabOk rfl rfl rfl (by simp only [inK]; omega) rfl rfl rfl (run_l tabOk ?_); conv => whnf) | (refine wl_cvB tabOk rfl rfl rfl rfl rfl rfl (run_l tabOk ?_); conv => whnf) | (refine wl_rem rfl rfl rfl rfl rfl rfl (by omega) (by omega) (fun r hr hr0 hr1 hr2 => run_l tabOk ?_); conv => whnf) | (refine wl_quo rfl rfl rfl rfl rfl rfl (by omega) (by omega) (by simp only [inK]; omega) (run_l tabOk ?_); conv => whnf) | (refine wl_mul rfl rfl rfl rfl rfl rfl (by omega) (by omega) (run_l tabOk ?_); conv => whnf) | (refine gs_dt (by first | assumption | omega) ?_; conv => whnf) | (refine gs_df (by first | assumption | omega) ?_; conv => whnf) | (refine gs_t (by assumption) ?_; conv => whnf) | (refine gs_f (by assumption) ?_; conv => whnf) | (refine gs_d (fun hg => ?_) (fun hg => ?_) <;> conv => whnf) | (refine gs_n (fun hg => ?_) (fun hg => ?_) <;> conv => whnf) | (refine gs_nb (fun hg => ?_) (fun hg => ?_) <;> conv => whnf) | (refine gs_b (fun hg => ?_) (fun hg => ?_) <;> conv => whnf) | refine fin1 rfl rfl ?_))
    exact fin0 rfl ⟨rfl, stay (by omega)⟩
  by_cases h1 : b < 0
  · refine enterR (args := [.pointer (some ⟨c.gx, 0, none⟩), .int .i64 a, .int .i64 b]) tabOk Tryd.func77 rfl Tryd.ntmps77 rfl ?_; conv => whnf
    (repeat' (first | (refine wl_add rfl rfl rfl rfl rfl rfl (by omega) (by omega) (run_l tabOk ?_); conv => whnf) | (refine wl_sub rfl rfl rfl rfl rfl rfl (by omega) (by omega) (run_l tabOk ?_); conv => whnf) | (refine wl_cvA tabOk rfl rfl rfl (by simp only [inK]; omega) rfl rfl rfl (run_l tabOk ?_); conv => whnf) | (refine wl_cvB tabOk rfl rfl rfl rfl rfl rfl (run_l tabOk ?_); conv => whnf) | (refine wl_rem rfl rfl rfl rfl rfl rfl (by omega) (by omega) (fun r hr hr0 hr1 hr2 => run_l tabOk ?_); conv => whnf) | (refine wl_quo rfl rfl rfl rfl rfl rfl (by omega) (by omega) (by simp only [inK]; omega) (run_l tabOk ?_); conv => whnf) | (refine wl_mul rfl rfl rfl rfl rfl rfl (by omega) (by omega) (run_l tabOk ?_); conv => whnf) | (refine gs_dt (by first | assumption | omega) ?_; conv => whnf) | (refine gs_df (by first | assumption | omega) ?_; conv => whnf) | (refine gs_t (by assumption) ?_; conv => whnf) | (refine gs_f (by assumption) ?_; conv => whnf) | (refine gs_d (fun hg => ?_) (fun hg => ?_) <;> conv => whnf) | (refine gs_n (fun hg => ?_) (fun hg => ?_) <;> conv => whnf) | (refine gs_nb (fun hg => ?_) (fun hg => ?_) <;> conv => whnf) | (refine gs_b (fun hg => ?_) (fun hg => ?_) <;> conv => whnf) | refine fin1 rfl rfl ?_))
    exact fin0 rfl ⟨rfl, stay (by omega)⟩
  by_cases h2 : a = b
  · refine enterR (args := [.pointer (some ⟨c.gx, 0, none⟩), .int .i64 a, .int .i64 b]) tabOk Tryd.func77 rfl Tryd.ntmps77 rfl ?_; conv => whnf
    (repeat' (first | (refine wl_add rfl rfl rfl rfl rfl rfl (by omega) (by omega) (run_l tabOk ?_); conv => whnf) | (refine wl_sub rfl rfl rfl rfl rfl rfl (by omega) (by omega) (run_l tabOk ?_); conv => whnf) | (refine wl_cvA tabOk rfl rfl rfl (by simp only [inK]; omega) rfl rfl rfl (run_l tabOk ?_); conv => whnf) | (refine wl_cvB tabOk rfl rfl rfl rfl rfl rfl (run_l tabOk ?_); conv => whnf) | (refine wl_rem rfl rfl rfl rfl rfl rfl (by omega) (by omega) (fun r hr hr0 hr1 hr2 => run_l tabOk ?_); conv => whnf) | (refine wl_quo rfl rfl rfl rfl rfl rfl (by omega) (by omega) (by simp only [inK]; omega) (run_l tabOk ?_); conv => whnf) | (refine wl_mul rfl rfl rfl rfl rfl rfl (by omega) (by omega) (run_l tabOk ?_); conv => whnf) | (refine gs_dt (by first | assumption | omega) ?_; conv => whnf) | (refine gs_df (by first | assumption | omega) ?_; conv => whnf) | (refine gs_t (by assumption) ?_; conv => whnf) | (refine gs_f (by assumption) ?_; conv => whnf) | (refine gs_d (fun hg => ?_) (fun hg => ?_) <;> conv => whnf) | (refine gs_n (fun hg => ?_) (fun hg => ?_) <;> conv => whnf) | (refine gs_nb (fun hg => ?_) (fun hg => ?_) <;> conv => whnf) | (refine gs_b (fun hg => ?_) (fun hg => ?_) <;> conv => whnf) | refine fin1 rfl rfl ?_))
    exact fin0 rfl ⟨rfl, stay (by omega)⟩
  obtain ⟨u, rfl⟩ : ∃ u : Nat, a = u := ⟨a.toNat, by omega⟩
  obtain ⟨v, rfl⟩ : ∃ v : Nat, b = v := ⟨b.toNat, by omega⟩
  clear stay
  have hu : u < c.n := by omega
  have hv : v < c.n := by omega
  have huv : u ≠ v := by omega
  obtain ⟨hbx, hbO⟩ := h.box
  obtain ⟨hrt, _⟩ := h.rowT
  obtain ⟨g3, cap3, cur3, hVt, _, _, hcell3, _, _⟩ := hrt.form hu
  obtain ⟨ft, hT, hTO⟩ := h.setT hu
  have hb' := hbx
  unfold boxV at hb'
  rw [hVt] at hb'
  have hl1 := blk_len hT.wf (fun o ho => (hd.too u o ho).2)
  have hn := h.hn
  have hc3 := hcell3 u hu
  unfold ptrV at hc3
  refine enterR (args := [.pointer (some ⟨c.gx, 0, none⟩), .int .i64 (u : Int), .int .i64 (v : Int)]) tabOk Tryd.func77 rfl Tryd.ntmps77 rfl ?_; conv => whnf
  (repeat' (first | (refine wl_Lg tabOk hb' rfl rfl rfl rfl rfl rfl rfl (run_l tabOk ?_); conv => whnf) | (refine wl_L tabOk rfl rfl rfl rfl rfl rfl hc3 (run_l tabOk ?_); conv => whnf) | (refine wl_Xn tabOk 88 1 rfl rfl rfl rfl rfl rfl rfl (by omega) (run_l tabOk ?_); conv => whnf) | (refine wl_add rfl rfl rfl rfl rfl rfl (by omega) (by omega) (run_l tabOk ?_); conv => whnf) | (refine wl_sub rfl rfl rfl rfl rfl rfl (by omega) (by omega) (run_l tabOk ?_); conv => whnf) | (refine wl_cvA tabOk rfl rfl rfl (by simp only [inK]; omega) rfl rfl rfl (run_l tabOk ?_); conv => whnf) | (refine wl_cvB tabOk rfl rfl rfl rfl rfl rfl (run_l tabOk ?_); conv => whnf) | (refine wl_rem rfl rfl rfl rfl rfl rfl (by omega) (by omega) (fun r hr hr0 hr1 hr2 => run_l tabOk ?_); conv => whnf) | (refine wl_quo rfl rfl rfl rfl rfl rfl (by omega) (by omega) (by simp only [inK]; omega) (run_l tabOk ?_); conv => whnf) | (refine wl_mul rfl rfl rfl rfl rfl rfl (by omega) (by omega) (run_l tabOk ?_); conv => whnf) | (refine gs_dt (by first | assumption | omega) ?_; conv => whnf) | (refine gs_df (by first | assumption | omega) ?_; conv => whnf) | (refine gs_t (by assumption) ?_; conv => whnf) | (refine gs_f (by assumption) ?_; conv => whnf) | (refine gs_d (fun hg => ?_) (fun hg => ?_) <;> conv => whnf) | (refine gs_n (fun hg => ?_) (fun hg => ?_) <;> conv => whnf) | (refine gs_nb (fun hg => ?_) (fun hg => ?_) <;> conv => whnf) | (refine gs_b (fun hg => ?_) (fun hg => ?_) <;> conv => whnf) | refine fin1 rfl rfl ?_))
  refine wl_C fn47 (pAdd hT (v : Int) (by omega) (by omega) h.sz) rfl rfl rfl rfl rfl rfl rfl ?_
  rintro _ w1 ⟨bs', fp', hA⟩
  have hret := hA.ret
  rw [decide_eq_true (by omega : (0 : Int) ≤ (v : Int)), Bool.true_and, Int.toNat_natCast] at hret
  rw [hret]
  refine ⟨_, rfl, run_l tabOk ?_⟩
  conv => whnf
  obtain ⟨O2, h2, s2⟩ := h.toAdded hu hA.kept hTO hA.set (fun b hb => (hA.new b hb).elim (fun e => .inl (hTO b e)) .inr)
  have htoo : ∀ x y, memB (setN m.bt u bs' x) y = (memB (m.bt x) y || (decide (x = u) && decide (y = v))) := fun x y => by
    unfold setN
    by_cases e : x = u
    · subst e; rw [if_pos rfl, hA.mem]; simp [show ((v : Int) = (y : Int)) ↔ (y = v) by omega]
    · rw [if_neg e]; simp [e]
  (repeat' (first | (refine wl_add rfl rfl rfl rfl rfl rfl (by omega) (by omega) (run_l tabOk ?_); conv => whnf) | (refine wl_sub rfl rfl rfl rfl rfl rfl (by omega) (by omega) (run_l tabOk ?_); conv => whnf) | (refine wl_cvA tabOk rfl rfl rfl (by simp only [inK]; omega) rfl rfl rfl (run_l tabOk ?_); conv => whnf) | (refine wl_cvB tabOk rfl rfl rfl rfl rfl rfl (run_l tabOk ?_); conv => whnf) | (refine wl_rem rfl rfl rfl rfl rfl rfl (by omega) (by omega) (fun r hr hr0 hr1 hr2 => run_l tabOk ?_); conv => whnf) | (refine wl_quo rfl rfl rfl rfl rfl rfl (by omega) (by omega) (by simp only [inK]; omega) (run_l tabOk ?_); conv => whnf) | (refine wl_mul rfl rfl rfl rfl rfl rfl (by omega) (by omega) (run_l tabOk ?_); conv => whnf) | (refine gs_dt (by first | assumption | omega) ?_; conv => whnf) | (refine gs_df (by first | assumption | omega) ?_; conv => whnf) | (refine gs_t (by assumption) ?_; conv => whnf) | (refine gs_f (by assumption) ?_; conv => whnf) | (refine gs_d (fun hg => ?_) (fun hg => ?_) <;> conv => whnf) | (refine gs_n (fun hg => ?_) (fun hg => ?_) <;> conv => whnf) | (refine gs_nb (fun hg => ?_) (fun hg => ?_) <;> conv => whnf) | (refine gs_b (fun hg => ?_) (fun hg => ?_) <;> conv => whnf) | refine fin1 rfl rfl ?_))
  · have hin : memB (m.bt u) v = true := by
      cases hq : memB (m.bt u) v with
      | true => rfl
      | false => simp [hq] at *
    have hst : ({ m with bt := setN m.bt u bs' } : Mem).st = m.st := st_ext rfl rfl (by
      funext x y
      show memB (setN m.bt u bs' x) y = memB (m.bt x) y
      rw [htoo]
      by_cases e : x = u ∧ y = v
      · obtain ⟨rfl, rfl⟩ := e
        simp [hin]
      · simp only [Bool.or_eq_left_iff_imp, Bool.and_eq_true, decide_eq_true_eq]
        exact fun e2 => absurd e2 e) rfl rfl
    refine fin0 rfl ⟨rfl, O2, _, h2, s2, ?_, rfl, rfl⟩
    rw [hst]
    exact EdgeQ.none hd fun _ _ => .inr (by show memB (m.bt (u : Int).toNat) (v : Int).toNat = true; simpa using hin)
  · have hd2 : Dom c.n c.xs.length ({ m with bt := setN m.bt u bs' } : Mem).st := by
      refine ⟨hd.inn, hd.don, fun x y e => ?_, hd.work⟩
      have e : memB (setN m.bt u bs' x) y = true := e
      rw [htoo] at e
      simp only [Bool.or_eq_true, Bool.and_eq_true, decide_eq_true_eq] at e
      rcases e with e | ⟨rfl, rfl⟩
      · exact hd.too x y e
      · exact ⟨hu, hv⟩
    obtain ⟨hbx2, hbO2⟩ := h2.box
    obtain ⟨hri, _⟩ := h2.rowI
    obtain ⟨g1, cap1, cur1, hVi, _, _, hcell1, _, _⟩ := hri.form hu
    obtain ⟨fi, hI, hIO⟩ := h2.setI hu
    have hb2 := hbx2
    unfold boxV at hb2
    rw [hVi, hVt] at hb2
    have hc1 := hcell1 u hu
    unfold ptrV at hc1
    (repeat' (first | (refine wl_Lg tabOk hb2 rfl rfl rfl rfl rfl rfl rfl (run_l tabOk ?_); conv => whnf) | (refine wl_L tabOk rfl rfl rfl rfl rfl rfl hc1 (run_l tabOk ?_); conv => whnf) | (refine wl_Xn tabOk 88 1 rfl rfl rfl rfl rfl rfl rfl (by omega) (run_l tabOk ?_); conv => whnf) | (refine wl_add rfl rfl rfl rfl rfl rfl (by omega) (by omega) (run_l tabOk ?_); conv => whnf) | (refine wl_sub rfl rfl rfl rfl rfl rfl (by omega) (by omega) (run_l tabOk ?_); conv => whnf) | (refine wl_cvA tabOk rfl rfl rfl (by simp only [inK]; omega) rfl rfl rfl (run_l tabOk ?_); conv => whnf) | (refine wl_cvB tabOk rfl rfl rfl rfl rfl rfl (run_l tabOk ?_); conv => whnf) | (refine wl_rem rfl rfl rfl rfl rfl rfl (by omega) (by omega) (fun r hr hr0 hr1 hr2 => run_l tabOk ?_); conv => whnf) | (refine wl_quo rfl rfl rfl rfl rfl rfl (by omega) (by omega) (by simp only [inK]; omega) (run_l tabOk ?_); conv => whnf) | (refine wl_mul rfl rfl rfl rfl rfl rfl (by omega) (by omega) (run_l tabOk ?_); conv => whnf) | (refine gs_dt (by first | assumption | omega) ?_; conv => whnf) | (refine gs_df (by first | assumption | omega) ?_; conv => whnf) | (refine gs_t (by assumption) ?_; conv => whnf) | (refine gs_f (by assumption) ?_; conv => whnf) | (refine gs_d (fun hg => ?_) (fun hg => ?_) <;> conv => whnf) | (refine gs_n (fun hg => ?_) (fun hg => ?_) <;> conv => whnf) | (refine gs_nb (fun hg => ?_) (fun hg => ?_) <;> conv => whnf) | (refine gs_b (fun hg => ?_) (fun hg => ?_) <;> conv => whnf) | refine fin1 rfl rfl ?_))
    refine wl_C fn63 (sFlow h2 hd2 v hv hI (fun o ho => (hd.inn u o ho).2)) rfl rfl rfl rfl rfl rfl rfl ?_
    rintro _ w3 ⟨rfl, O3, m3, h3, s3, hF, e1, e2⟩
    refine ⟨_, rfl, run_l tabOk ?_⟩
    conv => whnf
    refine fin0 rfl ⟨rfl, O3, m3, h3, s2.trans s3, ?_, e1, e2⟩
    have hR : EdgeR u v m.st m3.st := by
      refine ⟨fun x o => ?_, hF.don, fun x y => ?_, hF.pops, hF.work⟩
      · rw [hF.inn]
        show (memB (m.bi x) o || (decide (x = v) && memB (m.bi u) o)) = (memB (m.bi x) o || (decide (x = v) && memB (m.bi u) o && !decide (u = v)))
        simp [huv]
      · rw [hF.too]
        show memB (setN m.bt u bs' x) y = (memB (m.bt x) y || (decide (x = u) && decide (y = v) && !decide (u = v)))
        rw [htoo]
        simp [huv]
    exact hR.q hu hv hd
end Go.Proofs.YtkjbkalakafnlaaDoor

/- solve: object. -/
namespace Go.Proofs.YtkjbkalakafnlaaDoor
open Go.RowKit
set_option linter.unusedVariables false
set_option linter.unusedSimpArgs false
set_option maxRecDepth 100000
structure ObjQ (n nc : Nat) (con : Con) (x : Cell) (P : St → Prop) (s t : St) : Prop where
  grow : Grow n nc s t
  dom : Dom n nc t
  there : P t
  sound : ∀ S, Sound S s → (∀ N, ClosedM S N → objP con x N) → Sound S t
theorem ObjQ.start {n nc : Nat} {con : Con} {x : Cell} {P : St → Prop} {s : St} (hd : Dom n nc s) (h : P s) : ObjQ n nc con x P s s := ⟨Grow.refl _, hd, h, fun _ hs _ => hs⟩
theorem ObjQ.weak {n nc : Nat} {con : Con} {x : Cell} {P P' : St → Prop} {s t : St} (h : ObjQ n nc con x P s t) (hp : P t → P' t) : ObjQ n nc con x P' s t := ⟨h.grow, h.dom, hp h.there, h.sound⟩
/-- edge(a, b): what is in a is in b, too. -/
theorem ObjQ.step {n nc : Nat} {con : Con} {x : Cell} {P P' : St → Prop} {s t u : St} {a b : Int} (h : ObjQ n nc con x P s t) (k : EdgeQ n nc a b t u) (hp : P t → (∀ x y, t.too x y = true → u.too x y = true) → edgeE u a b → P' u) (hv : ∀ N, objP con x N → flowP b a N) : ObjQ n nc con x P' s u :=
  ⟨h.grow.trans k.grow, k.dom, hp h.there k.grow.too k.there, fun S hs hN => k.sound S (h.sound S hs hN) fun h0 h1 N hcl o ho => hv N (hN N hcl) h1 h0 o ho⟩
set_option maxHeartbeats 8000000 in
theorem sObject {c : Cx} {O : Nat → Nat} {w0 w : World} {m : Mem} (h : SV c O w m) (hd : Dom c.n c.xs.length m.st) (con : Con) (x : Cell) (B D : Option Addr) (bc dc : Nat) (hw : Below w0.heap.size w0 w) (hw0 : w0.heap.size = c.base)
    (hB : RI w0 B con.args) (hD : RI w0 D x.args) (hca : -9223372036854775808 ≤ con.a ∧ con.a < c.n) (hcb0 : -9223372036854775808 ≤ con.b) (hcb : con.k = 4 → con.b < c.n) (hxv : -9223372036854775808 ≤ x.v ∧ x.v < c.n) (hxa : ∀ j, j < x.args.length → x.args[j]! < c.n) (hcargs : ∀ j, j < con.args.length → con.args[j]! < c.n) :
    Calls Tryd.prog 62 #[.pointer (some ⟨c.gx, 0, none⟩), .agg #[.int .u8 con.k, .int .i64 con.a, .int .i64 con.b, .slice B con.args.length bc], .agg #[.bool x.fn, .int .i64 x.v, .slice D x.args.length dc]] w fun e w' => e = .returned (.tuple #[]) ∧ SR c O w m w' (ObjQ c.n c.xs.length con x fun t => objE t con x) := by
  have hbl := hB.1
  have hdl := hD.1
  refine enterR (args := [.pointer (some ⟨c.gx, 0, none⟩), .agg #[.int .u8 con.k, .int .i64 con.a, .int .i64 con.b, .slice B con.args.length bc], .agg #[.bool x.fn, .int .i64 x.v, .slice D x.args.length dc]]) tabOk Tryd.func62 rfl Tryd.ntmps62 rfl ?_; conv => whnf
  refine wl_box rfl rfl rfl rfl rfl rfl ?_
  intro g1 w1 hn1
  refine run_l tabOk ?_
  conv => whnf
  refine wl_box rfl rfl rfl rfl rfl rfl ?_
  intro g2 w2 hn2
  have hb1 := hn2.old hn1.blk
  have hb2 := hn2.blk
  have hB2 := hn2.up hn1.below
  have h2 := h.up hB2 97
  have s2 : Stp O (newO O w.heap.size 97) w w2 := Stp.up hB2 97
  have hO1 : newO O w.heap.size 97 g1 = 97 := newO_new (by have := hn1.at_; omega)
  have hO2 : newO O w.heap.size 97 g2 = 97 := newO_new (by have := hn2.at_; have := hn1.size; omega)
  have hw2 := bup hw hB2
  generalize newO O w.heap.size 97 = Oz at h2 s2 hO1 hO2
  clear hn1 hn2
  refine run_l tabOk ?_
  conv => whnf
  (repeat' (first | (refine wl_Lg tabOk hb1 rfl rfl rfl rfl rfl rfl rfl (run_l tabOk ?_); conv => whnf) | (refine wl_Lg tabOk hb2 rfl rfl rfl rfl rfl rfl rfl (run_l tabOk ?_); conv => whnf) | (refine wl_add rfl rfl rfl rfl rfl rfl (by omega) (by omega) (run_l tabOk ?_); conv => whnf) | (refine wl_sub rfl rfl rfl rfl rfl rfl (by omega) (by omega) (run_l tabOk ?_); conv => whnf) | (refine wl_cvA tabOk rfl rfl rfl (by simp only [inK]; omega) rfl rfl rfl (run_l tabOk ?_); conv => whnf) | (refine wl_cvB tabOk rfl rfl rfl rfl rfl rfl (run_l tabOk ?_); conv => whnf) | (refine wl_rem rfl rfl rfl rfl rfl rfl (by omega) (by omega) (fun r hr hr0 hr1 hr2 => run_l tabOk ?_); conv => whnf) | (refine wl_quo rfl rfl rfl rfl rfl rfl (by omega) (by omega) (by simp only [inK]; omega) (run_l tabOk ?_); conv => whnf) | (refine wl_mul rfl rfl rfl rfl rfl rfl (by omega) (by omega) (run_l tabOk ?_); conv => whnf) | (refine gs_dt (by first | assumption | omega) ?_; conv => whnf) | (refine gs_df (by first | assumption | omega) ?_; conv => whnf) | (refine gs_t (by assumption) ?_; conv => whnf) | (refine gs_f (by assumption) ?_; conv => whnf) | (refine gs_d (fun hg => ?_) (fun hg => ?_) <;> conv => whnf) | (refine gs_n (fun hg => ?_) (fun hg => ?_) <;> conv => whnf) | (refine gs_nb (fun hg => ?_) (fun hg => ?_) <;> conv => whnf) | (refine gs_b (fun hg => ?_) (fun hg => ?_) <;> conv => whnf) | refine fin1 rfl rfl ?_))
  · have hk : con.k = 3 := by assumption
    have hfn : x.fn = false := by assumption
    (repeat' (first | (refine wl_Lg tabOk hb1 rfl rfl rfl rfl rfl rfl rfl (run_l tabOk ?_); conv => whnf) | (refine wl_Lg tabOk hb2 rfl rfl rfl rfl rfl rfl rfl (run_l tabOk ?_); conv => whnf) | (refine wl_add rfl rfl rfl rfl rfl rfl (by omega) (by omega) (run_l tabOk ?_); conv => whnf) | (refine wl_sub rfl rfl rfl rfl rfl rfl (by omega) (by omega) (run_l tabOk ?_); conv => whnf) | (refine wl_cvA tabOk rfl rfl rfl (by simp only [inK]; omega) rfl rfl rfl (run_l tabOk ?_); conv => whnf) | (refine wl_cvB tabOk rfl rfl rfl rfl rfl rfl (run_l tabOk ?_); conv => whnf) | (refine wl_rem rfl rfl rfl rfl rfl rfl (by omega) (by omega) (fun r hr hr0 hr1 hr2 => run_l tabOk ?_); conv => whnf) | (refine wl_quo rfl rfl rfl rfl rfl rfl (by omega) (by omega) (by simp only [inK]; omega) (run_l tabOk ?_); conv => whnf) | (refine wl_mul rfl rfl rfl rfl rfl rfl (by omega) (by omega) (run_l tabOk ?_); conv => whnf) | (refine gs_dt (by first | assumption | omega) ?_; conv => whnf) | (refine gs_df (by first | assumption | omega) ?_; conv => whnf) | (refine gs_t (by assumption) ?_; conv => whnf) | (refine gs_f (by assumption) ?_; conv => whnf) | (refine gs_d (fun hg => ?_) (fun hg => ?_) <;> conv => whnf) | (refine gs_n (fun hg => ?_) (fun hg => ?_) <;> conv => whnf) | (refine gs_nb (fun hg => ?_) (fun hg => ?_) <;> conv => whnf) | (refine gs_b (fun hg => ?_) (fun hg => ?_) <;> conv => whnf) | refine fin1 rfl rfl ?_))
    refine wl_C fn77 (sEdge h2 hd x.v con.a hxv hca) rfl rfl rfl rfl rfl rfl rfl ?_
    rintro _ w3 ⟨rfl, O3, m3, h3, s3, hE, e1, e2⟩
    refine ⟨_, rfl, run_l tabOk ?_⟩
    conv => whnf
    exact fin0 rfl ⟨rfl, O3, m3, h3, s2.trans s3, (ObjQ.start (P := fun _ => True) hd trivial).step hE (fun _ _ q => ⟨fun h1 _ => by first | exact q | (exfalso; omega), fun h1 _ => by first | exact q | (exfalso; omega), fun h1 _ => by first | exact q | (exfalso; omega)⟩) (fun N hN => hN.1 hk hfn), e1, e2⟩
  · exact fin0 rfl ⟨rfl, Oz, m, h2, s2, ObjQ.start hd ⟨fun h1 h3 => by first | (exfalso; omega) | (rw [hg] at h3; cases h3), fun h1 h3 => by first | (exfalso; omega) | (rw [hg] at h3; cases h3), fun h1 h3 => by first | (exfalso; omega) | (rw [hg] at h3; cases h3)⟩, rfl, rfl⟩
  · have hk : con.k = 4 := by assumption
    have hfn : x.fn = false := by assumption
    (repeat' (first | (refine wl_Lg tabOk hb1 rfl rfl rfl rfl rfl rfl rfl (run_l tabOk ?_); conv => whnf) | (refine wl_Lg tabOk hb2 rfl rfl rfl rfl rfl rfl rfl (run_l tabOk ?_); conv => whnf) | (refine wl_add rfl rfl rfl rfl rfl rfl (by omega) (by omega) (run_l tabOk ?_); conv => whnf) | (refine wl_sub rfl rfl rfl rfl rfl rfl (by omega) (by omega) (run_l tabOk ?_); conv => whnf) | (refine wl_cvA tabOk rfl rfl rfl (by simp only [inK]; omega) rfl rfl rfl (run_l tabOk ?_); conv => whnf) | (refine wl_cvB tabOk rfl rfl rfl rfl rfl rfl (run_l tabOk ?_); conv => whnf) | (refine wl_rem rfl rfl rfl rfl rfl rfl (by omega) (by omega) (fun r hr hr0 hr1 hr2 => run_l tabOk ?_); conv => whnf) | (refine wl_quo rfl rfl rfl rfl rfl rfl (by omega) (by omega) (by simp only [inK]; omega) (run_l tabOk ?_); conv => whnf) | (refine wl_mul rfl rfl rfl rfl rfl rfl (by omega) (by omega) (run_l tabOk ?_); conv => whnf) | (refine gs_dt (by first | assumption | omega) ?_; conv => whnf) | (refine gs_df (by first | assumption | omega) ?_; conv => whnf) | (refine gs_t (by assumption) ?_; conv => whnf) | (refine gs_f (by assumption) ?_; conv => whnf) | (refine gs_d (fun hg => ?_) (fun hg => ?_) <;> conv => whnf) | (refine gs_n (fun hg => ?_) (fun hg => ?_) <;> conv => whnf) | (refine gs_nb (fun hg => ?_) (fun hg => ?_) <;> conv => whnf) | (refine gs_b (fun hg => ?_) (fun hg => ?_) <;> conv => whnf) | refine fin1 rfl rfl ?_))
    refine wl_C fn77 (sEdge h2 hd con.b x.v ⟨hcb0, hcb hk⟩ hxv) rfl rfl rfl rfl rfl rfl rfl ?_
    rintro _ w3 ⟨rfl, O3, m3, h3, s3, hE, e1, e2⟩
    refine ⟨_, rfl, run_l tabOk ?_⟩
    conv => whnf
    exact fin0 rfl ⟨rfl, O3, m3, h3, s2.trans s3, (ObjQ.start (P := fun _ => True) hd trivial).step hE (fun _ _ q => ⟨fun h1 _ => by first | exact q | (exfalso; omega), fun h1 _ => by first | exact q | (exfalso; omega), fun h1 _ => by first | exact q | (exfalso; omega)⟩) (fun N hN => hN.2.1 hk hfn), e1, e2⟩
  · exact fin0 rfl ⟨rfl, Oz, m, h2, s2, ObjQ.start hd ⟨fun h1 h3 => by first | (exfalso; omega) | (rw [hg] at h3; cases h3), fun h1 h3 => by first | (exfalso; omega) | (rw [hg] at h3; cases h3), fun h1 h3 => by first | (exfalso; omega) | (rw [hg] at h3; cases h3)⟩, rfl, rfl⟩
  · have hk5 : con.k = 5 := by assumption
    have hfn : x.fn = true := by assumption
    refine lp_loop tabOk (X := Nat × (Nat → Nat) × Mem) (fun y => [(0, .pointer (some ⟨c.gx, 0, none⟩)), (4, .pointer (some ⟨g1, 0, none⟩)), (5, .pointer (some ⟨g2, 0, none⟩)), (47, .slice D x.args.length dc), (48, .int .i64 x.args.length), (49, .int .i64 y.1)])
      (fun y wr => y.1 ≤ x.args.length ∧ SV c y.2.1 wr y.2.2 ∧ Stp Oz y.2.1 w2 wr ∧ ObjQ c.n c.xs.length con x (fun t => ∀ k, k < y.1 → k < x.args.length → k < con.args.length → edgeE t con.args[k]! x.args[k]!) m.st y.2.2.st ∧ y.2.2.fr = m.fr ∧ y.2.2.Vr = m.Vr) (fun y => x.args.length - y.1) (0, Oz, m) ⟨rfl, rfl, rfl, rfl, rfl, rfl, trivial⟩ ⟨by simp, h2, Stp.refl _ _, ObjQ.start hd (fun k hk => by simp at hk), rfl, rfl⟩ ?_
    rintro ⟨j, Oj, mj⟩ G wr ⟨hj, hj2, sj, hQ, e1, e2⟩
    simp only at hj hj2 sj hQ e1 e2
    conv => whnf
    have hb1r : wr.heap[g1]? = _ := (sj.fr g1 (blk_lt hb1) (by omega) (by omega)).trans hb1
    have hb2r : wr.heap[g2]? = _ := (sj.fr g2 (blk_lt hb2) (by omega) (by omega)).trans hb2
    have hwr : Below w0.heap.size w0 wr := hw2.trans (by rw [hw0]; exact sj.below h2.low h2.sz)
    have hdj := hQ.dom
    by_cases hjl : j < x.args.length
    · obtain ⟨p, ad, hp, rfl, f0, hpr⟩ := intsE (hD.up (stays_I _) hwr) j hjl
      have hpn := hxa j hjl
      rw [hp.out] at hpn
      by_cases hjc : j < con.args.length
      · obtain ⟨q, ad2, hq, rfl, f1, hqr⟩ := intsE (hB.up (stays_I _) hwr) j hjc
        have hqn := hcargs j hjc
        rw [hq.out] at hqn
        (repeat' (first | (refine wl_Lg tabOk hb1r rfl rfl rfl rfl rfl rfl rfl (run_l tabOk ?_); conv => whnf) | (refine wl_L tabOk rfl rfl rfl rfl rfl rfl f0 (run_l tabOk ?_); conv => whnf) | (refine wl_L tabOk rfl rfl rfl rfl rfl rfl f1 (run_l tabOk ?_); conv => whnf) | (refine wl_Xn tabOk 3 1 rfl rfl rfl rfl rfl rfl rfl (by omega) (run_l tabOk ?_); conv => whnf) | (refine wl_add rfl rfl rfl rfl rfl rfl (by omega) (by omega) (run_l tabOk ?_); conv => whnf) | (refine wl_sub rfl rfl rfl rfl rfl rfl (by omega) (by omega) (run_l tabOk ?_); conv => whnf) | (refine wl_cvA tabOk rfl rfl rfl (by simp only [inK]; omega) rfl rfl rfl (run_l tabOk ?_); conv => whnf) | (refine wl_cvB tabOk rfl rfl rfl rfl rfl rfl (run_l tabOk ?_); conv => whnf) | (refine wl_rem rfl rfl rfl rfl rfl rfl (by omega) (by omega) (fun r hr hr0 hr1 hr2 => run_l tabOk ?_); conv => whnf) | (refine wl_quo rfl rfl rfl rfl rfl rfl (by omega) (by omega) (by simp only [inK]; omega) (run_l tabOk ?_); conv => whnf) | (refine wl_mul rfl rfl rfl rfl rfl rfl (by omega) (by omega) (run_l tabOk ?_); conv => whnf) | (refine gs_dt (by first | assumption | omega) ?_; conv => whnf) | (refine gs_df (by first | assumption | omega) ?_; conv => whnf) | (refine gs_t (by assumption) ?_; conv => whnf) | (refine gs_f (by assumption) ?_; conv => whnf) | (refine gs_d (fun hg => ?_) (fun hg => ?_) <;> conv => whnf) | (refine gs_n (fun hg => ?_) (fun hg => ?_) <;> conv => whnf) | (refine gs_nb (fun hg => ?_) (fun hg => ?_) <;> conv => whnf) | (refine gs_b (fun hg => ?_) (fun hg => ?_) <;> conv => whnf) | refine fin1 rfl rfl ?_))
        refine wl_C fn77 (sEdge hj2 hdj q p ⟨hqr.1, hqn⟩ ⟨hpr.1, hpn⟩) rfl rfl rfl rfl rfl rfl rfl ?_
        rintro _ w4 ⟨rfl, O4, m4, h4, s4, hE, e3, e4⟩
        refine ⟨_, rfl, run_l tabOk ?_⟩
        conv => whnf
        (repeat' (first | (refine wl_add rfl rfl rfl rfl rfl rfl (by omega) (by omega) (run_l tabOk ?_); conv => whnf) | (refine wl_sub rfl rfl rfl rfl rfl rfl (by omega) (by omega) (run_l tabOk ?_); conv => whnf) | (refine wl_cvA tabOk rfl rfl rfl (by simp only [inK]; omega) rfl rfl rfl (run_l tabOk ?_); conv => whnf) | (refine wl_cvB tabOk rfl rfl rfl rfl rfl rfl (run_l tabOk ?_); conv => whnf) | (refine wl_rem rfl rfl rfl rfl rfl rfl (by omega) (by omega) (fun r hr hr0 hr1 hr2 => run_l tabOk ?_); conv => whnf) | (refine wl_quo rfl rfl rfl rfl rfl rfl (by omega) (by omega) (by simp only [inK]; omega) (run_l tabOk ?_); conv => whnf) | (refine wl_mul rfl rfl rfl rfl rfl rfl (by omega) (by omega) (run_l tabOk ?_); conv => whnf) | (refine gs_dt (by first | assumption | omega) ?_; conv => whnf) | (refine gs_df (by first | assumption | omega) ?_; conv => whnf) | (refine gs_t (by assumption) ?_; conv => whnf) | (refine gs_f (by assumption) ?_; conv => whnf) | (refine gs_d (fun hg => ?_) (fun hg => ?_) <;> conv => whnf) | (refine gs_n (fun hg => ?_) (fun hg => ?_) <;> conv => whnf) | (refine gs_nb (fun hg => ?_) (fun hg => ?_) <;> conv => whnf) | (refine gs_b (fun hg => ?_) (fun hg => ?_) <;> conv => whnf) | refine fin1 rfl rfl ?_))
        refine ⟨(j + 1, O4, m4), ⟨rfl, rfl, rfl, rfl, rfl, rfl, trivial⟩, ⟨by simp only; omega, h4, sj.trans s4, hQ.step hE (fun hp2 hup he k hk hk1 hk2 => ?_) (fun N hN => by have := (hN.2.2 hk5 hfn).2 j hjl hjc; rwa [hp.out, hq.out] at this), e3.trans e1, e4.trans e2⟩, by simp only; omega⟩
        rcases Nat.lt_or_ge k j with hkj | hkj
        · exact (hp2 k hkj hk1 hk2).up hup
        · have : k = j := by omega
          subst this
          rw [hp.out, hq.out]
          exact he
      · (repeat' (first | (refine wl_Lg tabOk hb1r rfl rfl rfl rfl rfl rfl rfl (run_l tabOk ?_); conv => whnf) | (refine wl_L tabOk rfl rfl rfl rfl rfl rfl f0 (run_l tabOk ?_); conv => whnf) | (refine wl_Xn tabOk 3 1 rfl rfl rfl rfl rfl rfl rfl (by omega) (run_l tabOk ?_); conv => whnf) | (refine wl_add rfl rfl rfl rfl rfl rfl (by omega) (by omega) (run_l tabOk ?_); conv => whnf) | (refine wl_sub rfl rfl rfl rfl rfl rfl (by omega) (by omega) (run_l tabOk ?_); conv => whnf) | (refine wl_cvA tabOk rfl rfl rfl (by simp only [inK]; omega) rfl rfl rfl (run_l tabOk ?_); conv => whnf) | (refine wl_cvB tabOk rfl rfl rfl rfl rfl rfl (run_l tabOk ?_); conv => whnf) | (refine wl_rem rfl rfl rfl rfl rfl rfl (by omega) (by omega) (fun r hr hr0 hr1 hr2 => run_l tabOk ?_); conv => whnf) | (refine wl_quo rfl rfl rfl rfl rfl rfl (by omega) (by omega) (by simp only [inK]; omega) (run_l tabOk ?_); conv => whnf) | (refine wl_mul rfl rfl rfl rfl rfl rfl (by omega) (by omega) (run_l tabOk ?_); conv => whnf) | (refine gs_dt (by first | assumption | omega) ?_; conv => whnf) | (refine gs_df (by first | assumption | omega) ?_; conv => whnf) | (refine gs_t (by assumption) ?_; conv => whnf) | (refine gs_f (by assumption) ?_; conv => whnf) | (refine gs_d (fun hg => ?_) (fun hg => ?_) <;> conv => whnf) | (refine gs_n (fun hg => ?_) (fun hg => ?_) <;> conv => whnf) | (refine gs_nb (fun hg => ?_) (fun hg => ?_) <;> conv => whnf) | (refine gs_b (fun hg => ?_) (fun hg => ?_) <;> conv => whnf) | refine fin1 rfl rfl ?_))
        refine ⟨(j + 1, Oj, mj), ⟨rfl, rfl, rfl, rfl, rfl, rfl, trivial⟩, ⟨by simp only; omega, hj2, sj, hQ.weak fun hp2 k hk hk1 hk2 => hp2 k (by simp only at hk; omega) hk1 hk2, e1, e2⟩, by simp only; omega⟩
    · (repeat' (first | (refine wl_Lg tabOk hb1r rfl rfl rfl rfl rfl rfl rfl (run_l tabOk ?_); conv => whnf) | (refine wl_Lg tabOk hb2r rfl rfl rfl rfl rfl rfl rfl (run_l tabOk ?_); conv => whnf) | (refine wl_add rfl rfl rfl rfl rfl rfl (by omega) (by omega) (run_l tabOk ?_); conv => whnf) | (refine wl_sub rfl rfl rfl rfl rfl rfl (by omega) (by omega) (run_l tabOk ?_); conv => whnf) | (refine wl_cvA tabOk rfl rfl rfl (by simp only [inK]; omega) rfl rfl rfl (run_l tabOk ?_); conv => whnf) | (refine wl_cvB tabOk rfl rfl rfl rfl rfl rfl (run_l tabOk ?_); conv => whnf) | (refine wl_rem rfl rfl rfl rfl rfl rfl (by omega) (by omega) (fun r hr hr0 hr1 hr2 => run_l tabOk ?_); conv => whnf) | (refine wl_quo rfl rfl rfl rfl rfl rfl (by omega) (by omega) (by simp only [inK]; omega) (run_l tabOk ?_); conv => whnf) | (refine wl_mul rfl rfl rfl rfl rfl rfl (by omega) (by omega) (run_l tabOk ?_); conv => whnf) | (refine gs_dt (by first | assumption | omega) ?_; conv => whnf) | (refine gs_df (by first | assumption | omega) ?_; conv => whnf) | (refine gs_t (by assumption) ?_; conv => whnf) | (refine gs_f (by assumption) ?_; conv => whnf) | (refine gs_d (fun hg => ?_) (fun hg => ?_) <;> conv => whnf) | (refine gs_n (fun hg => ?_) (fun hg => ?_) <;> conv => whnf) | (refine gs_nb (fun hg => ?_) (fun hg => ?_) <;> conv => whnf) | (refine gs_b (fun hg => ?_) (fun hg => ?_) <;> conv => whnf) | refine fin1 rfl rfl ?_))
      refine wl_C fn77 (sEdge hj2 hdj x.v con.a hxv hca) rfl rfl rfl rfl rfl rfl rfl ?_
      rintro _ w4 ⟨rfl, O4, m4, h4, s4, hE, e3, e4⟩
      refine ⟨_, rfl, run_l tabOk ?_⟩
      conv => whnf
      exact fin0 rfl ⟨rfl, O4, m4, h4, s2.trans (sj.trans s4), hQ.step hE (fun hp2 hup he => ⟨fun h1 => by omega, fun h1 => by omega, fun _ _ => ⟨he, fun k hk1 hk2 => (hp2 k (by omega) hk1 hk2).up hup⟩⟩) (fun N hN => (hN.2.2 hk5 hfn).1), e3.trans e1, e4.trans e2⟩
  · exact fin0 rfl ⟨rfl, Oz, m, h2, s2, ObjQ.start hd ⟨fun h1 h3 => by first | (exfalso; omega) | (rw [hg] at h3; cases h3), fun h1 h3 => by first | (exfalso; omega) | (rw [hg] at h3; cases h3), fun h1 h3 => by first | (exfalso; omega) | (rw [hg] at h3; cases h3)⟩, rfl, rfl⟩
  · exact fin0 rfl ⟨rfl, Oz, m, h2, s2, ObjQ.start hd ⟨fun h1 h3 => by first | (exfalso; omega) | (rw [hg] at h3; cases h3), fun h1 h3 => by first | (exfalso; omega) | (rw [hg] at h3; cases h3), fun h1 h3 => by first | (exfalso; omega) | (rw [hg] at h3; cases h3)⟩, rfl, rfl⟩
end Go.Proofs.YtkjbkalakafnlaaDoor
