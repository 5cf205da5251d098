/- Systems, drafts: their kinds, how they are opened; the last step of every law's row. -/
import Derived.Test.YtkjbkalakafnlaaDoorA0
namespace Go.Proofs.YtkjbkalakafnlaaDoor
open Go.RowKit Go.ChangeShapes Go.WideShapes Go.ChangeAt
set_option linter.unusedVariables false
set_option linter.unusedSimpArgs false

structure Cell where
  fn : Bool
  v : Int
  args : List Int
deriving Inhabited
structure Con where
  k : Int
  a : Int
  b : Int
  args : List Int
deriving Inhabited
structure Sys where
  vars : Int
  cells : List Cell
  cons : List Con
deriving Inhabited
structure AAct where
  k : Int
  a : Int
  b : Int
  c : Int
deriving Inhabited
structure Draft where
  vars : Int
  cells : Int
  acts : List AAct
deriving Inhabited

abbrev RI := RowR 1 (dI .i64)
def dInts : Dec (List Int) := dS 1 (dI .i64)
def dCell : Dec Cell := fun w cs x => ∃ A c, cs = [.bool x.fn, .int .i64 x.v, .slice A x.args.length c] ∧ x.args.length ≤ c ∧ RI w A x.args ∧ IntKind.i64.min ≤ x.v ∧ x.v ≤ IntKind.i64.max
def dCon : Dec Con := fun w cs x => ∃ A c, cs = [.int .u8 x.k, .int .i64 x.a, .int .i64 x.b, .slice A x.args.length c] ∧ x.args.length ≤ c ∧ RI w A x.args ∧
  (IntKind.u8.min ≤ x.k ∧ x.k ≤ IntKind.u8.max) ∧ (IntKind.i64.min ≤ x.a ∧ x.a ≤ IntKind.i64.max) ∧ IntKind.i64.min ≤ x.b ∧ x.b ≤ IntKind.i64.max
abbrev RCells := RowR 3 dCell
abbrev RCons := RowR 4 dCon
def dSys : Dec Sys := fun w cs x => ∃ A c B d, cs = [.int .i64 x.vars, .slice A x.cells.length c, .slice B x.cons.length d] ∧ RCells w A x.cells ∧ RCons w B x.cons ∧ x.cells.length ≤ c ∧ x.cons.length ≤ d ∧ IntKind.i64.min ≤ x.vars ∧ x.vars ≤ IntKind.i64.max
def dAct : Dec AAct := fun w cs x => cs = [.int .u8 x.k, .int .u8 x.a, .int .u8 x.b, .int .u8 x.c] ∧ (0 ≤ x.k ∧ x.k ≤ 255) ∧ (0 ≤ x.a ∧ x.a ≤ 255) ∧ (0 ≤ x.b ∧ x.b ≤ 255) ∧ 0 ≤ x.c ∧ x.c ≤ 255
abbrev RActs := RowR 4 dAct
def dDraft : Dec Draft := fun w cs x => ∃ A c, cs = [.int .u8 x.vars, .int .u8 x.cells, .slice A x.acts.length c] ∧ RActs w A x.acts ∧ (0 ≤ x.vars ∧ x.vars ≤ 255) ∧ 0 ≤ x.cells ∧ x.cells ≤ 255
abbrev RRows := RowR 1 dInts

theorem stays_Ints : Stays dInts := stays_S (stays_I _)
theorem stays_Cell : Stays dCell := ⟨fun _ _ _ _ hb ⟨A, c, e, l, h, r⟩ => ⟨A, c, e, l, h.stays (stays_I _) hb, r⟩⟩
theorem stays_Con : Stays dCon := ⟨fun _ _ _ _ hb ⟨A, c, e, l, h, r⟩ => ⟨A, c, e, l, h.stays (stays_I _) hb, r⟩⟩
theorem stays_Act : Stays dAct := ⟨fun _ _ _ _ _ h => h⟩
theorem stays_Sys : Stays dSys := ⟨fun _ _ _ _ hb ⟨A, c, B, d, e, h1, h2, r⟩ => ⟨A, c, B, d, e, h1.stays stays_Cell hb, h2.stays stays_Con hb, r⟩⟩

/-! ### an element -/
theorem ints_at {w : World} {A : Option Addr} {xs : List Int} (h : RI w A xs) (i : Nat) (hi : i < xs.length) :
    ∃ x ad, Kp (xs[i]! = x) ∧ A = some ad ∧ w.cell? (ad.add i) = some (.int .i64 x) ∧ -9223372036854775808 ≤ x ∧ x ≤ 9223372036854775807 := by
  obtain ⟨ad, cs, e, hl, hc, rfl, r⟩ := h.2 i hi
  exact ⟨_, ad, ⟨rfl⟩, e, by have := hc 0 _ rfl; rwa [Nat.mul_one, Nat.add_zero] at this, r⟩
theorem rows_at {w : World} {A : Option Addr} {xs : List (List Int)} (h : RRows w A xs) (i : Nat) (hi : i < xs.length) :
    ∃ x ad B c, Kp (xs[i]! = x) ∧ A = some ad ∧ w.cell? (ad.add i) = some (.slice B x.length c) ∧ x.length ≤ c ∧ Kp (RI w B x) := by
  obtain ⟨ad, cs, e, hl, hc, B, c, rfl, l, r⟩ := h.2 i hi
  exact ⟨_, ad, B, c, ⟨rfl⟩, e, by have := hc 0 _ rfl; rwa [Nat.mul_one, Nat.add_zero] at this, l, ⟨r⟩⟩
theorem cells_at {w : World} {A : Option Addr} {xs : List Cell} (h : RCells w A xs) (i : Nat) (hi : i < xs.length) :
    ∃ x ad B c, Kp (xs[i]! = x) ∧ A = some ad ∧ w.cell? (ad.add (i * 3)) = some (.bool x.fn) ∧ w.cell? ⟨(ad.add (i * 3)).block, (ad.add (i * 3)).off + 1, none⟩ = some (.int .i64 x.v) ∧
      w.cell? ⟨(ad.add (i * 3)).block, (ad.add (i * 3)).off + 2, none⟩ = some (.slice B x.args.length c) ∧ x.args.length ≤ c ∧ Kp (RI w B x.args) := by
  obtain ⟨ad, cs, e, hl, hc, B, c, rfl, l, r, _⟩ := h.2 i hi
  exact ⟨_, ad, B, c, ⟨rfl⟩, e, by have := hc 0 _ rfl; rwa [Nat.add_zero] at this, by rw [add_field _ _ _ (by omega)]; exact hc 1 _ rfl, by rw [add_field _ _ _ (by omega)]; exact hc 2 _ rfl, l, ⟨r⟩⟩
theorem cons_at {w : World} {A : Option Addr} {xs : List Con} (h : RCons w A xs) (i : Nat) (hi : i < xs.length) :
    ∃ x ad B c, Kp (xs[i]! = x) ∧ A = some ad ∧ w.cell? (ad.add (i * 4)) = some (.int .u8 x.k) ∧ w.cell? ⟨(ad.add (i * 4)).block, (ad.add (i * 4)).off + 1, none⟩ = some (.int .i64 x.a) ∧
      w.cell? ⟨(ad.add (i * 4)).block, (ad.add (i * 4)).off + 2, none⟩ = some (.int .i64 x.b) ∧
      w.cell? ⟨(ad.add (i * 4)).block, (ad.add (i * 4)).off + 3, none⟩ = some (.slice B x.args.length c) ∧ x.args.length ≤ c ∧ Kp (RI w B x.args) ∧ 0 ≤ x.k ∧ x.k ≤ 255 := by
  obtain ⟨ad, cs, e, hl, hc, B, c, rfl, l, r, hk, _⟩ := h.2 i hi
  exact ⟨_, ad, B, c, ⟨rfl⟩, e, by have := hc 0 _ rfl; rwa [Nat.add_zero] at this, by rw [add_field _ _ _ (by omega)]; exact hc 1 _ rfl, by rw [add_field _ _ _ (by omega)]; exact hc 2 _ rfl, by rw [add_field _ _ _ (by omega)]; exact hc 3 _ rfl, l, ⟨r⟩, hk⟩
theorem acts_at {w : World} {A : Option Addr} {xs : List AAct} (h : RActs w A xs) (i : Nat) (hi : i < xs.length) :
    ∃ x ad, Kp (xs[i]! = x) ∧ A = some ad ∧ w.cell? (ad.add (i * 4)) = some (.int .u8 x.k) ∧ w.cell? ⟨(ad.add (i * 4)).block, (ad.add (i * 4)).off + 1, none⟩ = some (.int .u8 x.a) ∧
      w.cell? ⟨(ad.add (i * 4)).block, (ad.add (i * 4)).off + 2, none⟩ = some (.int .u8 x.b) ∧ w.cell? ⟨(ad.add (i * 4)).block, (ad.add (i * 4)).off + 3, none⟩ = some (.int .u8 x.c) ∧
      (0 ≤ x.k ∧ x.k ≤ 255) ∧ (0 ≤ x.a ∧ x.a ≤ 255) ∧ (0 ≤ x.b ∧ x.b ≤ 255) ∧ 0 ≤ x.c ∧ x.c ≤ 255 := by
  obtain ⟨ad, cs, e, hl, hc, rfl, r⟩ := h.2 i hi
  exact ⟨_, ad, ⟨rfl⟩, e, by have := hc 0 _ rfl; rwa [Nat.add_zero] at this, by rw [add_field _ _ _ (by omega)]; exact hc 1 _ rfl, by rw [add_field _ _ _ (by omega)]; exact hc 2 _ rfl, by rw [add_field _ _ _ (by omega)]; exact hc 3 _ rfl, r⟩

/-! ### opening -/
section
variable {H : Type} {enc : TypeId × Value → H} {w : World} {base : Nat} {spare : Nat → Bool} {held : Bool}
theorem opens_Ints : Opens enc Tryd.prog w base spare held 46 dInts := opens_S (sz := 1) Tryd.underlying46 (by kernel_rfl) (opens_I Tryd.underlying3)
theorem opens_Rows : Opens enc Tryd.prog w base spare held 56 (dS 1 dInts) := opens_S (sz := 1) Tryd.underlying56 (by kernel_rfl) opens_Ints
theorem three {l : List Value} (h : l.length = 3) : ∃ a b c, l = [a, b, c] := match l, h with | [a, b, c], _ => ⟨a, b, c, rfl⟩
theorem four {l : List Value} (h : l.length = 4) : ∃ a b c d, l = [a, b, c, d] := match l, h with | [a, b, c, d], _ => ⟨a, b, c, d, rfl⟩
theorem cellsI : Tryd.prog.cellsOf 3 = 1 := by kernel_rfl
theorem cellsU8 : Tryd.prog.cellsOf 5 = 1 := by kernel_rfl
theorem cellsB : Tryd.prog.cellsOf 4 = 1 := by kernel_rfl
theorem cellsInts : Tryd.prog.cellsOf 46 = 1 := by kernel_rfl
theorem cellsLC : Tryd.prog.cellsOf 51 = 1 := by kernel_rfl
theorem cellsLN : Tryd.prog.cellsOf 52 = 1 := by kernel_rfl
theorem cellsLA : Tryd.prog.cellsOf 48 = 1 := by kernel_rfl
theorem cellsCell : Tryd.prog.cellsOf 71 = 3 := by kernel_rfl
theorem cellsCon : Tryd.prog.cellsOf 66 = 4 := by kernel_rfl
theorem cellsSys : Tryd.prog.cellsOf 54 = 3 := by kernel_rfl
theorem cellsAct : Tryd.prog.cellsOf 82 = 4 := by kernel_rfl
theorem cellsDraft : Tryd.prog.cellsOf 50 = 3 := by kernel_rfl
theorem opens_Cell : Opens enc Tryd.prog w base spare held 71 dCell := fun h => by
  obtain ⟨hl, n, hf⟩ := fields_of Tryd.underlying71 h
  rw [cellsCell] at hl
  obtain ⟨c0, c1, c2, rfl⟩ := three hl
  obtain ⟨y0, e0⟩ := hf 0 _ rfl
  obtain ⟨y1, e1⟩ := hf 1 _ rfl
  obtain ⟨y2, e2⟩ := hf 2 _ rfl
  simp [cellsI, cellsB, cellsInts] at e0 e1 e2
  obtain ⟨x0, h0⟩ := opens_B Tryd.underlying4 e0
  obtain ⟨x1, h1, r1⟩ := opens_I Tryd.underlying3 e1
  obtain ⟨x2, A, c, h2, r2⟩ := opens_Ints e2
  simp [dB] at h0 h1 h2
  exact ⟨⟨x0, x1, x2⟩, A, c, by simp [h0, h1, h2], r2.1, r2.2, r1⟩
theorem opens_Con : Opens enc Tryd.prog w base spare held 66 dCon := fun h => by
  obtain ⟨hl, n, hf⟩ := fields_of Tryd.underlying66 h
  rw [cellsCon] at hl
  obtain ⟨c0, c1, c2, c3, rfl⟩ := four hl
  obtain ⟨y0, e0⟩ := hf 0 _ rfl
  obtain ⟨y1, e1⟩ := hf 1 _ rfl
  obtain ⟨y2, e2⟩ := hf 2 _ rfl
  obtain ⟨y3, e3⟩ := hf 3 _ rfl
  simp [cellsI, cellsU8, cellsInts] at e0 e1 e2 e3
  obtain ⟨x0, h0, r0⟩ := opens_I Tryd.underlying5 e0
  obtain ⟨x1, h1, r1⟩ := opens_I Tryd.underlying3 e1
  obtain ⟨x2, h2, r2⟩ := opens_I Tryd.underlying3 e2
  obtain ⟨x3, A, c, h3, r3⟩ := opens_Ints e3
  simp at h0 h1 h2 h3
  exact ⟨⟨x0, x1, x2, x3⟩, A, c, by simp [h0, h1, h2, h3], r3.1, r3.2, r0, r1, r2⟩
theorem opens_Sys : Opens enc Tryd.prog w base spare held 54 dSys := fun h => by
  obtain ⟨hl, n, hf⟩ := fields_of Tryd.underlying54 h
  rw [cellsSys] at hl
  obtain ⟨c0, c1, c2, rfl⟩ := three hl
  obtain ⟨y0, e0⟩ := hf 0 _ rfl
  obtain ⟨y1, e1⟩ := hf 1 _ rfl
  obtain ⟨y2, e2⟩ := hf 2 _ rfl
  simp [cellsI, cellsLC, cellsLN] at e0 e1 e2
  obtain ⟨x0, h0, r0⟩ := opens_I Tryd.underlying3 e0
  obtain ⟨x1, A, c, h1, r1⟩ := opens_S Tryd.underlying51 cellsCell opens_Cell e1
  obtain ⟨x2, B, d, h2, r2⟩ := opens_S Tryd.underlying52 cellsCon opens_Con e2
  simp at h0 h1 h2
  exact ⟨⟨x0, x1, x2⟩, A, c, B, d, by simp [h0, h1, h2], r1.2, r2.2, r1.1, r2.1, r0⟩
theorem opens_Act : Opens enc Tryd.prog w base spare held 82 dAct := fun h => by
  obtain ⟨hl, n, hf⟩ := fields_of Tryd.underlying82 h
  rw [cellsAct] at hl
  obtain ⟨c0, c1, c2, c3, rfl⟩ := four hl
  obtain ⟨y0, e0⟩ := hf 0 _ rfl
  obtain ⟨y1, e1⟩ := hf 1 _ rfl
  obtain ⟨y2, e2⟩ := hf 2 _ rfl
  obtain ⟨y3, e3⟩ := hf 3 _ rfl
  simp [cellsU8] at e0 e1 e2 e3
  obtain ⟨x0, h0, r0⟩ := opens_I Tryd.underlying5 e0
  obtain ⟨x1, h1, r1⟩ := opens_I Tryd.underlying5 e1
  obtain ⟨x2, h2, r2⟩ := opens_I Tryd.underlying5 e2
  obtain ⟨x3, h3, r3⟩ := opens_I Tryd.underlying5 e3
  simp at h0 h1 h2 h3
  exact ⟨⟨x0, x1, x2, x3⟩, by simp [h0, h1, h2, h3], r0, r1, r2, r3⟩
theorem opens_Draft : Opens enc Tryd.prog w base spare held 50 dDraft := fun h => by
  obtain ⟨hl, n, hf⟩ := fields_of Tryd.underlying50 h
  rw [cellsDraft] at hl
  obtain ⟨c0, c1, c2, rfl⟩ := three hl
  obtain ⟨y0, e0⟩ := hf 0 _ rfl
  obtain ⟨y1, e1⟩ := hf 1 _ rfl
  obtain ⟨y2, e2⟩ := hf 2 _ rfl
  simp [cellsU8, cellsLA] at e0 e1 e2
  obtain ⟨x0, h0, r0⟩ := opens_I Tryd.underlying5 e0
  obtain ⟨x1, h1, r1⟩ := opens_I Tryd.underlying5 e1
  obtain ⟨x2, A, c, h2, r2⟩ := opens_S Tryd.underlying48 cellsAct opens_Act e2
  simp at h0 h1 h2
  exact ⟨⟨x0, x1, x2⟩, A, c, by simp [h0, h1, h2], r2.2, r0, r1⟩
end

/-! ### the row's last step -/
section
variable {H : Type} {enc : TypeId × Value → H} {P : Program}
theorem trodAll_below (hl : laidOutB P = true) {W W' : World} (hb : Below W.heap.size W W') (sp : Nat → Bool) : ∀ {ts : List TypeId} {vs : List Value} {ds : List (DataW H)} {ps : List MemPlace},
    (ts.all fun t => P.readableRec t && decide (t < P.types.size)) = true → DataW.TrodAll enc P W 0 (fun _ => true) true ts vs ds ps → (∀ x ∈ ps, x.block < W.heap.size) → (∀ x ∈ ps, sp x.block = true) → DataW.TrodAll enc P W' 0 sp true ts vs ds ps := by
  intro ts
  induction ts with
  | nil =>
    intro vs ds ps _ h _ _
    cases vs <;> cases ds <;> simp_all [DataW.TrodAll]
  | cons t ts ih =>
    intro vs ds ps hr h hlt hsp
    simp only [List.all_cons, Bool.and_eq_true, decide_eq_true_eq] at hr
    obtain ⟨v, vs', d, ds', p, q, rfl, rfl, rfl, h0, h1⟩ := trodAll_cons h
    refine ⟨p, q, WideElems.Trod_stays hl hr.1.1 hr.1.2 h0 (fun x hx => hb.same (hlt x (by simp [hx]))) (fun x hx => hsp x (by simp [hx])), ih (by simpa using hr.2) h1 (fun x hx => hlt x (by simp [hx])) (fun x hx => hsp x (by simp [hx])), rfl⟩
theorem post_of_below {f : Func} {s : ChangeSpec} {apart fresh handsOn again : Bool} {W W' : World} {args : Array Value} {v : Value} {ds gs : List (DataW H)} {before pa pv : List MemPlace}
    (hW : DataW.Whole enc P f.params.toList s.vars apart W args.toList ds gs before)
    (hres : ∀ (b : Nat) (sp : Nat → Bool) (hd : Bool), DataW.TrodAll enc P W' b sp hd f.resultTypes.toList (v.resultList f.resultTypes.size) (s.fn H (ds ++ gs)).results [])
    (hargs : ∀ sp : Nat → Bool, (∀ p ∈ before, sp p.block = true) → DataW.TrodAll enc P W' 0 sp true f.params.toList args.toList (s.fn H (ds ++ gs)).args pa)
    (hvars : ∀ sp : Nat → Bool, (∀ p ∈ before, sp p.block = true) → DataW.TrodVars enc P W' sp s.vars (s.fn H (ds ++ gs)).vars pv)
    (hps : before = pa ++ pv) (hb : Below W.heap.size W W')
    (hok : ∀ (j : Nat) (t : TypeId) (r : Value), f.resultTypes[j]? = some t → (v.resultList f.resultTypes.size)[j]? = some r → Value.okWide P W' .any 0 t r) :
    s.post enc P f apart fresh handsOn again W args v W' := by
  have hlt : ∀ p ∈ before, p.block < W.heap.size := fun p hp => hW.lt p hp
  have hold : ∀ p ∈ before, (fun b => decide (b < W.heap.size)) p.block = true := fun p hp => by simpa using hlt p hp
  refine ⟨ds, gs, before, [], pa, pv, hW, hres _ _ _, hargs _ hold, hvars _ hold, World.keptBut_mono (fun p hp => ⟨hp, ?_⟩) (hb.frame (· ∈ before)), fun _ => ?_⟩
  · rw [hps, List.mem_append] at hp
    exact Or.inr hp
  · obtain ⟨_, _, _, _, _, hz, hn⟩ := hW
    refine ⟨hok, _, _, ([] ++ pa) ++ pv, ⟨[] ++ pa, pv, trodAll_append (hargs _ (fun _ _ => rfl)) (hres _ _ _), hvars _ (fun _ _ => rfl), rfl, ?_, ?_⟩, ?_⟩
    · intro b off hp
      have hin : MemPlace.cell b off ∈ before := by rw [hps]; simpa using hp
      rw [hb.frozen (hlt _ hin)]
      exact hz b off hin
    · intro ha
      have := hn ha
      rw [hps] at this
      simpa using this
    · intro p hp _
      rw [hps]
      simpa using hp
end
theorem own : ownKnob Tryd.prog.godebug = none := by kernel_rfl
theorem laidOut : laidOutB Tryd.prog = true := by kernel_rfl
end Go.Proofs.YtkjbkalakafnlaaDoor
