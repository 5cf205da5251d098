/- Several texts of one claim in one file: AW19 L1502 L1503 R0. -/
import Derived.Test.YtjggjhgbobmkhaaY22
import Derived.Test.YtjggjhgbobmkhaaY10
import Derived.Test.YtjggjhgbobmkhaaY13
import Derived.Test.YtjggjhgbobmkhaaY1
/- The example of the document's chapter on smaller systems. -/
namespace Go.Proofs.Ytjggjhgbobmkhaa
open Go.RowKit
set_option linter.unusedVariables false
set_option linter.unusedSimpArgs false
set_option maxRecDepth 100000
abbrev aXs : List Cell := [⟨false, 2, []⟩]
abbrev aYs : List Con := [⟨1, 0, 0, []⟩, ⟨2, 1, 0, []⟩]
theorem a_right : rightB ⟨(3 : Nat), aXs, aYs⟩ = true := by decide
theorem a_cp {v u : Nat} (h : CpE ⟨(3 : Nat), aXs, aYs⟩ v u) : v = 1 ∧ u = 0 := by
  obtain ⟨c, hc, h2, h3, h4⟩ := h
  simp only [List.mem_cons, List.not_mem_nil, or_false] at hc
  rcases hc with rfl | rfl
  · exact absurd h2 (by decide)
  · simp only at h3 h4
    omega
theorem a_seed {v j : Nat} (h : Seed 3 1 ⟨(3 : Nat), aXs, aYs⟩ v j) : (v = 0 ∧ j = 0) ∨ (v = 2 ∧ j = 3) := by
  rcases h with ⟨c, hc, h3, h4⟩ | ⟨h3, h4⟩
  · simp only [List.mem_cons, List.not_mem_nil, or_false] at hc
    rcases hc with rfl | rfl
    · rcases h4 with ⟨_, h4⟩ | ⟨h4, _⟩
      · simp only at h3 h4
        omega
      · exact absurd h4 (by decide)
    · rcases h4 with ⟨h4, _⟩ | ⟨h4, _⟩ <;> exact absurd h4 (by decide)
  · right
    simp only [looseAt, aXs, aYs, List.any_cons, List.any_nil, cellLoose, conLoose, Bool.or_false, Bool.or_eq_true, Bool.and_eq_true, decide_eq_true_eq] at h4
    omega
theorem a_src0 (j : Nat) : Src 3 1 ⟨(3 : Nat), aXs, aYs⟩ 0 j ↔ j = 0 := by
  constructor
  · rintro ⟨u, h1, h2⟩
    cases h1 with
    | refl => have := a_seed h2; omega
    | step e _ => have := a_cp e; omega
  · rintro rfl
    exact .seed (.inl ⟨⟨1, 0, 0, []⟩, by simp, rfl, .inl ⟨rfl, rfl⟩⟩)
theorem a_src1 (j : Nat) : Src 3 1 ⟨(3 : Nat), aXs, aYs⟩ 1 j ↔ j = 0 := by
  constructor
  · rintro ⟨u, h1, h2⟩
    cases h1 with
    | refl => have := a_seed h2; omega
    | @step _ w _ e r =>
      have h3 := a_cp e
      have h4 : w = 0 := h3.2
      subst h4
      exact (a_src0 j).1 ⟨u, r, h2⟩
  · intro h
    exact .copy ⟨⟨2, 1, 0, []⟩, by simp, rfl, rfl, rfl⟩ ((a_src0 j).2 h)
theorem a_src2 (j : Nat) : Src 3 1 ⟨(3 : Nat), aXs, aYs⟩ 2 j ↔ j = 3 := by
  constructor
  · rintro ⟨u, h1, h2⟩
    cases h1 with
    | refl => have := a_seed h2; omega
    | step e _ => have := a_cp e; omega
  · rintro rfl
    exact .seed (.inr ⟨rfl, by decide⟩)
theorem lt3 {v : Nat} (h : v < 3) : v = 0 ∨ v = 1 ∨ v = 2 := by omega
def aW : Nat → Int := fun v => if v = 2 then 1 else 0
theorem a_plain {wh lab : Nat → Int} (h : Canon 3 wh (fun v u => klF lab v = klF lab u) (fun v => lab v < 0)) (hl : ∀ v, v < 3 → lab v = (v : Int)) : wh 0 = 0 ∧ wh 1 = 1 ∧ wh 2 = 2 := by
  have hc : Canon 3 (fun v => (v : Int)) (fun v u => klF lab v = klF lab u) (fun v => lab v < 0) := by
    refine ⟨fun v hv => ?_, fun v u hv hu => ?_, fun v hv => ?_⟩
    · have := hl v hv
      constructor <;> intro h <;> omega
    · have h1 := hl v hv
      have h2 := hl u hu
      unfold klF
      rw [if_neg (by omega), if_neg (by omega), h1, h2]
    · have e : ∀ v, nxt (fun v : Nat => (v : Int)) v = v := fun v => by
        induction v with
        | zero => rfl
        | succ v ih => unfold nxt; rw [ih, if_pos rfl]
      rw [e]
      omega
  have hu := h.unique hc
  exact ⟨hu 0 (by omega), hu 1 (by omega), hu 2 (by omega)⟩
theorem a_hu {wh lab : Nat → Int} (h : Canon 3 wh (fun v u => klF lab v = klF lab u) (fun v => lab v < 0)) (hl : Canon 3 lab (SrcE 3 1 ⟨(3 : Nat), aXs, aYs⟩) (SrcZ 3 1 ⟨(3 : Nat), aXs, aYs⟩)) : wh 0 = 0 ∧ wh 1 = 0 ∧ wh 2 = 1 := by
  have n0 : lab 0 ≠ -1 := fun e => (hl.none 0 (by omega)).1 e 0 ((a_src0 0).2 rfl)
  have n1 : lab 1 ≠ -1 := fun e => (hl.none 1 (by omega)).1 e 0 ((a_src1 0).2 rfl)
  have n2 : lab 2 ≠ -1 := fun e => (hl.none 2 (by omega)).1 e 3 ((a_src2 3).2 rfl)
  have e01 : lab 0 = lab 1 := (hl.same 0 1 (by omega) (by omega)).2 fun j => (a_src0 j).trans (a_src1 j).symm
  have e02 : lab 0 ≠ lab 2 := fun e => by
    have := (hl.same 0 2 (by omega) (by omega)).1 e 0
    rw [a_src0, a_src2] at this
    omega
  have g0 := (hl.le 0 (by omega)).1
  have g2 := (hl.le 2 (by omega)).1
  have hc : Canon 3 aW (fun v u => klF lab v = klF lab u) (fun v => lab v < 0) := by
    have k0 : klF lab 0 = lab 0 := if_neg (by omega)
    have k1 : klF lab 1 = lab 1 := if_neg (by omega)
    have k2 : klF lab 2 = lab 2 := if_neg (by omega)
    refine ⟨fun v hv => ?_, fun v u hv hu => ?_, fun v hv => ?_⟩
    · rcases lt3 hv with rfl | rfl | rfl <;> (unfold aW; constructor <;> intro h <;> first | omega | (simp at h))
    · rcases lt3 hv with rfl | rfl | rfl <;> rcases lt3 hu with rfl | rfl | rfl <;> simp only [k0, k1, k2, aW] <;> (constructor <;> intro h <;> simp at h ⊢ <;> omega)
    · rcases lt3 hv with rfl | rfl | rfl <;> decide
  have hu := h.unique hc
  exact ⟨hu 0 (by omega), hu 1 (by omega), hu 2 (by omega)⟩
theorem a_shP {wh : Nat → Int} (h : wh 0 = 0 ∧ wh 1 = 1 ∧ wh 2 = 2) : nxt wh 3 = 3 ∧ aXs.map (shC wh) = aXs ∧ shN wh false aYs = aYs := by
  obtain ⟨h0, h1, h2⟩ := h
  refine ⟨?_, ?_, ?_⟩
  · simp [nxt, h0, h1, h2]
  · simp [aXs, shC, atF, h2]
  · simp [aYs, shN, shStep, shX, atF, h0, h1]
theorem a_shH {wh : Nat → Int} (h : wh 0 = 0 ∧ wh 1 = 0 ∧ wh 2 = 1) : nxt wh 3 = 2 ∧ (shN wh true aYs).length = 1 := by
  obtain ⟨h0, h1, h2⟩ := h
  refine ⟨?_, ?_⟩
  · simp [nxt, h0, h1, h2]
  · simp [aYs, shN, shStep, shX, atF, emptyC, inC, eqC, h0, h1]
theorem aByP (A1 A2 : Option Addr) (c1 c2 : Nat) (w : World) (hr1 : RCells w A1 aXs) (hr2 : RCons w A2 aYs) :
    Calls Try.prog 27 #[.agg #[.int .i64 3, .slice A1 1 c1, .slice A2 2 c2], .int .u8 0] w fun e w' => ∃ gw D1 d1 D2 d2, e = .returned (.tuple #[.agg #[.int .i64 3, .slice D1 1 d1, .slice D2 2 d2], .slice (some ⟨gw, 0, none⟩) 3 3, .int .i64 0]) ∧ w'.cell? ((⟨gw, 0, none⟩ : Addr).add (2 * 1)) = some (.int .i64 2) ∧ RCells w' D1 aXs ∧ RCons w' D2 aYs ∧ Below w.heap.size w w' := by
  refine (shBy 3 aXs aYs A1 A2 c1 c2 0 w a_right (by decide) hr1 hr2).mono ?_
  rintro e w' ⟨gw, wh, lab, H, B, D1, d1, D2, d2, he, hA, hcan, hLM, hB⟩
  have hw := a_plain hcan (hLM.plain (by decide) (by decide))
  obtain ⟨s1, s2, s3⟩ := a_shP hw
  have hless : decide (¬ (0 : Int) = 0) = false := by decide
  rw [hless] at he hA
  obtain ⟨r1, r2⟩ := hA.rows
  rw [s2] at r1
  rw [s3] at r2
  rw [s1, s3] at he
  refine ⟨gw, D1, d1, D2, d2, he, ?_, r1, r2, hB⟩
  rw [Nat.mul_one, add_zero, ← hw.2.2]
  exact cell_blk hA.wr (by simpa using fZ_get (show 2 < 3 by omega))
theorem aByH (A1 A2 : Option Addr) (c1 c2 : Nat) (w : World) (hr1 : RCells w A1 aXs) (hr2 : RCons w A2 aYs) :
    Calls Try.prog 27 #[.agg #[.int .i64 3, .slice A1 1 c1, .slice A2 2 c2], .int .u8 2] w fun e w' => ∃ gw D1 d1 D2 d2, e = .returned (.tuple #[.agg #[.int .i64 2, .slice D1 1 d1, .slice D2 1 d2], .slice (some ⟨gw, 0, none⟩) 3 3, .int .i64 0]) ∧ w'.cell? ((⟨gw, 0, none⟩ : Addr).add (0 * 1)) = some (.int .i64 0) ∧ w'.cell? ((⟨gw, 0, none⟩ : Addr).add (1 * 1)) = some (.int .i64 0) ∧ Below w.heap.size w w' := by
  refine (shBy 3 aXs aYs A1 A2 c1 c2 2 w a_right (by decide) hr1 hr2).mono ?_
  rintro e w' ⟨gw, wh, lab, H, B, D1, d1, D2, d2, he, hA, hcan, hLM, hB⟩
  have hw := a_hu hcan (hLM.hu rfl)
  obtain ⟨s1, s2⟩ := a_shH hw
  have hless : decide (¬ (2 : Int) = 0) = true := by decide
  rw [hless] at he hA
  rw [s1, s2] at he
  refine ⟨gw, D1, d1, D2, d2, he, ?_, ?_, hB⟩
  · rw [Nat.mul_one, add_zero, ← hw.1]
    exact cell_blk hA.wr (by simpa using fZ_get (show 0 < 3 by omega))
  · rw [Nat.mul_one, add_zero, ← hw.2.1]
    exact cell_blk hA.wr (by simpa using fZ_get (show 1 < 3 by omega))
set_option maxHeartbeats 8000000 in
theorem awake19 (w : World) : Calls Try.prog 25 #[] w fun e w' => e = .returned (.bool true) ∧ Below w.heap.size w w' := by
  refine enterR (args := []) tabOk Try.func25 rfl Try.ntmps25 rfl ?_; conv => whnf
  refine wl_bs tabOk 44 3 rfl rfl rfl rfl rfl rfl rfl rfl rfl rfl ?_
  intro g1 w1 hn1
  refine run_l tabOk ?_
  conv => whnf
  refine wl_bs tabOk 46 4 rfl rfl rfl rfl rfl rfl rfl rfl rfl rfl ?_
  intro g2 w2 hn2
  refine run_l tabOk ?_
  conv => whnf
  refine wl_alloc tabOk rfl rfl rfl rfl rfl rfl ?_
  intro g3 w3 hn3
  refine run_l tabOk ?_
  conv => whnf
  refine wl_Sa tabOk hn3.blk rfl rfl rfl rfl rfl (by simp [Value.oneCell']) rfl rfl ?_
  intro w4 hp4
  refine run_l tabOk ?_
  conv => whnf
  have q1 := hn1.at_
  have q2 := hn2.at_
  have q3 := hn3.at_
  have q1s := hn1.size
  have q2s := hn2.size
  have q3s := hn3.size
  have hb1 := hp4.old (hn3.old (hn2.old hn1.blk)) (by omega)
  have hb2 := hp4.old (hn3.old hn2.blk) (by omega)
  have hb3 := hp4.blk
  have hB4 : Below w.heap.size w w4 := hp4.below (hn3.up (hn2.up hn1.below)) (by omega) (by omega)
  have hxs : RCells w4 (some ⟨g1, 0, none⟩) aXs := row_of_blk hb1 (Elems.one (d := dCell) rfl (dCell_nil _ false 2 (by decide) (by decide))) (by simp [aXs])
  have hys : RCons w4 (some ⟨g2, 0, none⟩) aYs := row_of_blk hb2 ((Elems.one (d := dCon) rfl (dCon_nil _ 1 0 0 (by decide) (by decide) (by decide))).push (cs := [.int .u8 2, .int .i64 1, .int .i64 0, .slice none 0 0]) rfl (dCon_nil _ 2 1 0 (by decide) (by decide) (by decide))) (by simp [aYs])
  clear hn1 hn2 hn3 hp4 q1 q2 q3 q1s q2s q3s hb1 hb2
  (repeat' (first | (refine wl_Lag tabOk hb3 rfl rfl rfl rfl rfl rfl (run_l tabOk ?_); conv => whnf) | ((first | refine wl_add rfl rfl rfl rfl rfl rfl (by omega) (by omega) (run_l tabOk ?_) | refine wl_sub rfl rfl rfl rfl rfl rfl (by omega) (by omega) (run_l tabOk ?_) | refine wl_cvA tabOk rfl rfl rfl (by simp only [inK]; omega) rfl rfl rfl (run_l tabOk ?_) | refine wl_cvB tabOk rfl rfl rfl rfl rfl rfl (run_l tabOk ?_) | refine wl_rem rfl rfl rfl rfl rfl rfl (by omega) (by omega) (fun r hr hr0 hr1 hr2 => run_l tabOk ?_) | refine wl_quo rfl rfl rfl rfl rfl rfl (by omega) (by omega) (by simp only [inK]; omega) (run_l tabOk ?_) | refine wl_mul rfl rfl rfl rfl rfl rfl (by omega) (by omega) (run_l tabOk ?_) | refine gs_dt (by first | assumption | omega) ?_ | refine gs_df (by first | assumption | omega) ?_ | refine gs_t (by assumption) ?_ | refine gs_f (by assumption) ?_ | refine gs_d (fun hg => ?_) (fun hg => ?_) | refine gs_n (fun hg => ?_) (fun hg => ?_) | refine gs_nb (fun hg => ?_) (fun hg => ?_) | refine gs_b (fun hg => ?_) (fun hg => ?_)) <;> conv => whnf) | refine fin1 rfl rfl ?_))
  refine wl_C fn27 (aByP (some ⟨g1, 0, none⟩) (some ⟨g2, 0, none⟩) 1 2 w4 hxs hys) rfl rfl rfl rfl rfl rfl rfl ?_
  rintro _ w5 ⟨gw, D1, d1, D2, d2, rfl, hcw, hr1, hr2, hB5⟩
  refine ⟨_, rfl, run_l tabOk ?_⟩
  conv => whnf
  (repeat' (first | ((first | refine wl_add rfl rfl rfl rfl rfl rfl (by omega) (by omega) (run_l tabOk ?_) | refine wl_sub rfl rfl rfl rfl rfl rfl (by omega) (by omega) (run_l tabOk ?_) | refine wl_cvA tabOk rfl rfl rfl (by simp only [inK]; omega) rfl rfl rfl (run_l tabOk ?_) | refine wl_cvB tabOk rfl rfl rfl rfl rfl rfl (run_l tabOk ?_) | refine wl_rem rfl rfl rfl rfl rfl rfl (by omega) (by omega) (fun r hr hr0 hr1 hr2 => run_l tabOk ?_) | refine wl_quo rfl rfl rfl rfl rfl rfl (by omega) (by omega) (by simp only [inK]; omega) (run_l tabOk ?_) | refine wl_mul rfl rfl rfl rfl rfl rfl (by omega) (by omega) (run_l tabOk ?_) | refine gs_dt (by first | assumption | omega) ?_ | refine gs_df (by first | assumption | omega) ?_ | refine gs_t (by assumption) ?_ | refine gs_f (by assumption) ?_ | refine gs_d (fun hg => ?_) (fun hg => ?_) | refine gs_n (fun hg => ?_) (fun hg => ?_) | refine gs_nb (fun hg => ?_) (fun hg => ?_) | refine gs_b (fun hg => ?_) (fun hg => ?_)) <;> conv => whnf) | refine fin1 rfl rfl ?_))
  refine wl_alloc tabOk rfl rfl rfl rfl rfl rfl ?_
  intro g5 w6 hn6
  refine run_l tabOk ?_
  conv => whnf
  refine wl_Sa tabOk hn6.blk rfl rfl rfl rfl rfl (by simp [Value.oneCell']) rfl rfl ?_
  intro w7 hp7
  have hB57 : Below w5.heap.size w5 w7 := hp7.below hn6.below (by have := hn6.at_; omega) (by have := hn6.size; omega)
  have hbt := hp7.blk
  have hb3 := blk_up (bup hB5 hB57) hb3
  have hcw := cell_up hB57 hcw
  have hr1 := hr1.up stays_Cell hB57
  have hr2 := hr2.up stays_Con hB57
  have hxs := hxs.up stays_Cell (bup hB5 hB57)
  have hys := hys.up stays_Con (bup hB5 hB57)
  have hB7 := bup hB4 (bup hB5 hB57)
  clear hp7 hn6 hB57 hB5 hB4
  refine run_l tabOk ?_
  conv => whnf
  (repeat' (first | (refine wl_Lag tabOk hb3 rfl rfl rfl rfl rfl rfl (run_l tabOk ?_); conv => whnf) | ((first | refine wl_add rfl rfl rfl rfl rfl rfl (by omega) (by omega) (run_l tabOk ?_) | refine wl_sub rfl rfl rfl rfl rfl rfl (by omega) (by omega) (run_l tabOk ?_) | refine wl_cvA tabOk rfl rfl rfl (by simp only [inK]; omega) rfl rfl rfl (run_l tabOk ?_) | refine wl_cvB tabOk rfl rfl rfl rfl rfl rfl (run_l tabOk ?_) | refine wl_rem rfl rfl rfl rfl rfl rfl (by omega) (by omega) (fun r hr hr0 hr1 hr2 => run_l tabOk ?_) | refine wl_quo rfl rfl rfl rfl rfl rfl (by omega) (by omega) (by simp only [inK]; omega) (run_l tabOk ?_) | refine wl_mul rfl rfl rfl rfl rfl rfl (by omega) (by omega) (run_l tabOk ?_) | refine gs_dt (by first | assumption | omega) ?_ | refine gs_df (by first | assumption | omega) ?_ | refine gs_t (by assumption) ?_ | refine gs_f (by assumption) ?_ | refine gs_d (fun hg => ?_) (fun hg => ?_) | refine gs_n (fun hg => ?_) (fun hg => ?_) | refine gs_nb (fun hg => ?_) (fun hg => ?_) | refine gs_b (fun hg => ?_) (fun hg => ?_)) <;> conv => whnf) | refine fin1 rfl rfl ?_))
  refine wl_C fn27 (aByH (some ⟨g1, 0, none⟩) (some ⟨g2, 0, none⟩) 1 2 w7 hxs hys) rfl rfl rfl rfl rfl rfl rfl ?_
  rintro _ w8 ⟨gv, E1, e1, E2, e2, rfl, hc0, hc1, hB8⟩
  refine ⟨_, rfl, run_l tabOk ?_⟩
  conv => whnf
  (repeat' (first | ((first | refine wl_add rfl rfl rfl rfl rfl rfl (by omega) (by omega) (run_l tabOk ?_) | refine wl_sub rfl rfl rfl rfl rfl rfl (by omega) (by omega) (run_l tabOk ?_) | refine wl_cvA tabOk rfl rfl rfl (by simp only [inK]; omega) rfl rfl rfl (run_l tabOk ?_) | refine wl_cvB tabOk rfl rfl rfl rfl rfl rfl (run_l tabOk ?_) | refine wl_rem rfl rfl rfl rfl rfl rfl (by omega) (by omega) (fun r hr hr0 hr1 hr2 => run_l tabOk ?_) | refine wl_quo rfl rfl rfl rfl rfl rfl (by omega) (by omega) (by simp only [inK]; omega) (run_l tabOk ?_) | refine wl_mul rfl rfl rfl rfl rfl rfl (by omega) (by omega) (run_l tabOk ?_) | refine gs_dt (by first | assumption | omega) ?_ | refine gs_df (by first | assumption | omega) ?_ | refine gs_t (by assumption) ?_ | refine gs_f (by assumption) ?_ | refine gs_d (fun hg => ?_) (fun hg => ?_) | refine gs_n (fun hg => ?_) (fun hg => ?_) | refine gs_nb (fun hg => ?_) (fun hg => ?_) | refine gs_b (fun hg => ?_) (fun hg => ?_)) <;> conv => whnf) | refine fin1 rfl rfl ?_))
  refine wl_alloc tabOk rfl rfl rfl rfl rfl rfl ?_
  intro g8 w9 hn9
  refine run_l tabOk ?_
  conv => whnf
  refine wl_Sa tabOk hn9.blk rfl rfl rfl rfl rfl (by simp [Value.oneCell']) rfl rfl ?_
  intro w10 hp10
  have hB810 : Below w8.heap.size w8 w10 := hp10.below hn9.below (by have := hn9.at_; omega) (by have := hn9.size; omega)
  have hbu := hp10.blk
  have hB710 := bup hB8 hB810
  have hb3 := blk_up hB710 hb3
  have hbt := blk_up hB710 hbt
  have hcw := cell_up hB710 hcw
  have hc0 := cell_up hB810 hc0
  have hc1 := cell_up hB810 hc1
  have hr1 := hr1.up stays_Cell hB710
  have hr2 := hr2.up stays_Con hB710
  have hxs := hxs.up stays_Cell hB710
  have hys := hys.up stays_Con hB710
  have hB10 := bup hB7 hB710
  clear hp10 hn9 hB810 hB8 hB710 hB7
  refine run_l tabOk ?_
  conv => whnf
  (repeat' (first | ((first | refine wl_add rfl rfl rfl rfl rfl rfl (by omega) (by omega) (run_l tabOk ?_) | refine wl_sub rfl rfl rfl rfl rfl rfl (by omega) (by omega) (run_l tabOk ?_) | refine wl_cvA tabOk rfl rfl rfl (by simp only [inK]; omega) rfl rfl rfl (run_l tabOk ?_) | refine wl_cvB tabOk rfl rfl rfl rfl rfl rfl (run_l tabOk ?_) | refine wl_rem rfl rfl rfl rfl rfl rfl (by omega) (by omega) (fun r hr hr0 hr1 hr2 => run_l tabOk ?_) | refine wl_quo rfl rfl rfl rfl rfl rfl (by omega) (by omega) (by simp only [inK]; omega) (run_l tabOk ?_) | refine wl_mul rfl rfl rfl rfl rfl rfl (by omega) (by omega) (run_l tabOk ?_) | refine gs_dt (by first | assumption | omega) ?_ | refine gs_df (by first | assumption | omega) ?_ | refine gs_t (by assumption) ?_ | refine gs_f (by assumption) ?_ | refine gs_d (fun hg => ?_) (fun hg => ?_) | refine gs_n (fun hg => ?_) (fun hg => ?_) | refine gs_nb (fun hg => ?_) (fun hg => ?_) | refine gs_b (fun hg => ?_) (fun hg => ?_)) <;> conv => whnf) | refine fin1 rfl rfl ?_))
  have hsm : ∀ W, Below w10.heap.size w10 W → Calls Try.prog 30 #[.agg #[.int .i64 3, .slice (some ⟨g1, 0, none⟩) 1 1, .slice (some ⟨g2, 0, none⟩) 2 2], .agg #[.int .i64 3, .slice D1 1 d1, .slice D2 2 d2]] W fun e w' => e = .returned (.bool true) ∧ Below W.heap.size W w' := fun W hb => by
    refine (refSame ⟨3, aXs, aYs⟩ ⟨3, aXs, aYs⟩ (some ⟨g1, 0, none⟩) (some ⟨g2, 0, none⟩) D1 D2 1 2 d1 d2 W (hxs.up stays_Cell hb) (hys.up stays_Con hb) (hr1.up stays_Cell hb) (hr2.up stays_Con hb)).mono ?_
    rintro e w' ⟨h1, h2⟩
    exact ⟨by rw [h1, show sameSys ⟨3, aXs, aYs⟩ ⟨3, aXs, aYs⟩ = true by decide], h2⟩
  have hcw : w10.cell? ((⟨gw, 0, none⟩ : Addr).add ((2 : Int).toNat * 1)) = _ := hcw
  have hc0 : w10.cell? ((⟨gv, 0, none⟩ : Addr).add ((0 : Int).toNat * 1)) = _ := hc0
  have hc1 : w10.cell? ((⟨gv, 0, none⟩ : Addr).add ((1 : Int).toNat * 1)) = _ := hc1
  refine wc_qr tabOk mixed (by kernel_rfl) ?_; conv => whnf
  (repeat' (first | (refine wq_Lg tabOk hbu rfl rfl rfl rfl rfl rfl rfl (run_q tabOk ?_); conv => whnf) | (refine wq_L tabOk rfl rfl rfl rfl rfl rfl hcw (run_q tabOk ?_); conv => whnf) | (refine wq_L tabOk rfl rfl rfl rfl rfl rfl hc0 (run_q tabOk ?_); conv => whnf) | (refine wq_L tabOk rfl rfl rfl rfl rfl rfl hc1 (run_q tabOk ?_); conv => whnf) | (refine wq_X tabOk 3 1 rfl rfl rfl rfl rfl rfl rfl (by omega) (by omega) (run_q tabOk ?_); conv => whnf) | (refine wq_Lag tabOk hb3 rfl rfl rfl rfl rfl rfl (run_q tabOk ?_); conv => whnf) | (refine wq_Lag tabOk hbt rfl rfl rfl rfl rfl rfl (run_q tabOk ?_); conv => whnf) | (refine wq_C fn30 (fun w _ => hsm w (by assumption)) rfl rfl rfl rfl rfl rfl rfl (run_q tabOk ?_); conv => whnf) | ((first | refine wq_add rfl rfl rfl rfl rfl rfl (by omega) (by omega) (run_q tabOk ?_) | refine wq_sub rfl rfl rfl rfl rfl rfl (by omega) (by omega) (run_q tabOk ?_) | refine wq_cvA tabOk rfl rfl rfl (by simp only [inK]; omega) rfl rfl rfl (run_q tabOk ?_) | refine wq_cvB tabOk rfl rfl rfl rfl rfl rfl (run_q tabOk ?_) | refine wq_rem rfl rfl rfl rfl rfl rfl (by omega) (by omega) (fun r hr hr0 hr1 hr2 => run_q tabOk ?_) | refine wq_quo rfl rfl rfl rfl rfl rfl (by omega) (by omega) (by simp only [inK]; omega) (run_q tabOk ?_) | refine wq_mul rfl rfl rfl rfl rfl rfl (by omega) (by omega) (run_q tabOk ?_) | refine gs_dt (by first | assumption | omega) ?_ | refine gs_df (by first | assumption | omega) ?_ | refine gs_t (by assumption) ?_ | refine gs_f (by assumption) ?_ | refine gs_d (fun hg => ?_) (fun hg => ?_) | refine gs_n (fun hg => ?_) (fun hg => ?_) | refine gs_nb (fun hg => ?_) (fun hg => ?_) | refine gs_b (fun hg => ?_) (fun hg => ?_)) <;> conv => whnf)))
  intro w11 hB11
  conv => whnf
  (repeat' (first | ((first | refine wl_add rfl rfl rfl rfl rfl rfl (by omega) (by omega) (run_l tabOk ?_) | refine wl_sub rfl rfl rfl rfl rfl rfl (by omega) (by omega) (run_l tabOk ?_) | refine wl_cvA tabOk rfl rfl rfl (by simp only [inK]; omega) rfl rfl rfl (run_l tabOk ?_) | refine wl_cvB tabOk rfl rfl rfl rfl rfl rfl (run_l tabOk ?_) | refine wl_rem rfl rfl rfl rfl rfl rfl (by omega) (by omega) (fun r hr hr0 hr1 hr2 => run_l tabOk ?_) | refine wl_quo rfl rfl rfl rfl rfl rfl (by omega) (by omega) (by simp only [inK]; omega) (run_l tabOk ?_) | refine wl_mul rfl rfl rfl rfl rfl rfl (by omega) (by omega) (run_l tabOk ?_) | refine gs_dt (by first | assumption | omega) ?_ | refine gs_df (by first | assumption | omega) ?_ | refine gs_t (by assumption) ?_ | refine gs_f (by assumption) ?_ | refine gs_d (fun hg => ?_) (fun hg => ?_) | refine gs_n (fun hg => ?_) (fun hg => ?_) | refine gs_nb (fun hg => ?_) (fun hg => ?_) | refine gs_b (fun hg => ?_) (fun hg => ?_)) <;> conv => whnf) | refine fin1 rfl rfl ?_))
  exact ⟨rfl, bup hB10 hB11⟩
end Go.Proofs.Ytjggjhgbobmkhaa

/- The walk of GraphOf. -/
namespace Go.Proofs.Ytjggjhgbobmkhaa
open Go.RowKit
set_option linter.unusedVariables false
set_option linter.unusedSimpArgs false
set_option maxRecDepth 100000
end Go.Proofs.Ytjggjhgbobmkhaa

/- The walk of GraphStores. -/
namespace Go.Proofs.Ytjggjhgbobmkhaa
open Go.RowKit
set_option linter.unusedVariables false
set_option linter.unusedSimpArgs false
set_option maxRecDepth 100000
end Go.Proofs.Ytjggjhgbobmkhaa

/- The last steps of a law's row, once for all laws: arguments opened, what is read again. -/
namespace Go.Proofs.Ytjggjhgbobmkhaa
open Go.ChangeShapes Go.WideShapes Go.ChangeAt Go.RowKit
set_option linter.unusedVariables false
set_option linter.unusedSimpArgs false
set_option maxRecDepth 100000
section
variable {H : Type} {enc : TypeId × Value → H} {W : World} {base : Nat}
theorem open_D {α : Type} {D : Dec α} {t : TypeId} {v : Value} {d : DataW H} {p : List MemPlace} (h : DataW.Trod enc Try.prog W 0 (fun _ => true) true t v d p) (ho : Opens enc Try.prog W 0 (fun _ => true) true t D) : ∃ a, D W v.cells.toList a := trod_of_Trod h ho
theorem open_Sys {v : Value} {d : DataW H} {p : List MemPlace} (hv : Value.okWide Try.prog W .any base 29 v) (h : DataW.Trod enc Try.prog W 0 (fun _ => true) true 29 v d p) :
    ∃ (s : Sys) (A B : Option Addr) (c e : Nat), v = .agg #[.int .i64 s.vars, .slice A s.cells.length c, .slice B s.cons.length e] ∧ RCells W A s.cells ∧ RCons W B s.cons ∧ -9223372036854775808 ≤ s.vars ∧ s.vars ≤ 9223372036854775807 := by
  obtain ⟨cs, rfl, _⟩ := okWide_struct Try.underlying29 hv
  obtain ⟨s, A, c, B, e, hc, h1, h2, _, _, h3⟩ := open_D h opens_Sys
  refine ⟨s, A, B, c, e, ?_, h1, h2, h3⟩
  simp only [Value.cells] at hc
  rw [← hc]
end
end Go.Proofs.Ytjggjhgbobmkhaa
