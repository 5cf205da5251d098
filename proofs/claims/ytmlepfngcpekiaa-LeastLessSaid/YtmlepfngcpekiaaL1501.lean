/- weathervanelaw15: awake, and the walks of GraphOf, GraphRaw. -/
import Derived.Test.YtmlepfngcpekiaaG15
import Derived.Test.YtmlepfngcpekiaaL1205
import Derived.Test.YtmlepfngcpekiaaL1208
namespace Go.Proofs.Ytmlepfngcpekiaa
open Go.RowKit
set_option linter.unusedVariables false
set_option linter.unusedSimpArgs false
set_option maxRecDepth 100000
/-- Of one variable alone. -/
def cstep (vars : Int) (v : Int) (q : List Int × List Int) (c : Con) : List Int × List Int :=
  if ¬ c.a = v then q else if c.k = 1 then (q.1, q.2 ++ [c.b]) else if c.k = 2 then (q.1 ++ [c.b], q.2) else if c.k = 3 then (q.1 ++ [vars + c.b], q.2) else q
theorem col_eq (vars : Int) (v : Nat) : ∀ (l : List Con) (p : List (List Int) × List (List Int)) (q : List Int × List Int), (∀ c ∈ l, 1 ≤ c.k → c.k ≤ 3 → 0 ≤ c.a) → v < p.1.length → p.1[v]! = q.1 → (v < p.2.length → p.2[v]! = q.2) →
    (l.foldl (gstep vars) p).1[v]! = (l.foldl (cstep vars v) q).1 ∧ (v < p.2.length → (l.foldl (gstep vars) p).2[v]! = (l.foldl (cstep vars v) q).2)
  | [], p, q, _, _, h1, h2 => ⟨h1, h2⟩
  | c :: l, p, q, ha, hv, h1, h2 => by
    have hl := gstep_len vars p c
    have hc := ha c (by simp)
    have add : ∀ (M : List (List Int)) (x : Int), v < M.length → 0 ≤ c.a → (addAt M c.a x)[v]! = if c.a = v then M[v]! ++ [x] else M[v]! := fun M x hM h0 => by
      unfold addAt
      rw [get_set _ _ _ _ hM]
      by_cases e : c.a = v
      · rw [if_pos (by omega), if_pos e]
        rw [show c.a.toNat = v by omega]
      · rw [if_neg (by omega), if_neg e]
    have key : (gstep vars p c).1[v]! = (cstep vars v q c).1 ∧ (v < p.2.length → (gstep vars p c).2[v]! = (cstep vars v q c).2) := by
      unfold gstep cstep
      by_cases k1 : c.k = 1
      · rw [if_pos k1]
        refine ⟨?_, fun hv2 => ?_⟩
        · split
          · exact h1
          · exact h1
        · rw [add _ _ hv2 (hc (by omega) (by omega)), h2 hv2]
          split
          · rename_i e; simp [e, k1]
          · rename_i e; simp [e]
      · rw [if_neg k1]
        by_cases k2 : c.k = 2
        · rw [if_pos k2]
          refine ⟨?_, fun hv2 => ?_⟩
          · rw [add _ _ hv (hc (by omega) (by omega)), h1]
            split
            · rename_i e; simp [e, k2]
            · rename_i e; simp [e]
          · split
            · exact h2 hv2
            · exact h2 hv2
        · rw [if_neg k2]
          by_cases k3 : c.k = 3
          · rw [if_pos k3]
            refine ⟨?_, fun hv2 => ?_⟩
            · rw [add _ _ hv (hc (by omega) (by omega)), h1]
              split
              · rename_i e; simp [e, k3]
              · rename_i e; simp [e]
            · split
              · exact h2 hv2
              · exact h2 hv2
          · rw [if_neg k3, if_neg k1, if_neg k2, if_neg k3]
            simp only [ite_self]
            exact ⟨h1, h2⟩
    have := col_eq vars v l (gstep vars p c) (cstep vars v q c) (fun x hx => ha x (by simp [hx])) (by rw [hl.1]; exact hv) key.1 (by rw [hl.2]; exact key.2)
    rw [hl.2] at this
    exact this
theorem cfold_small (vars v : Int) : ∀ (l : List Con) (q : List Int × List Int), (l.foldl (cstep vars v) q).1.length ≤ q.1.length + l.length ∧ (l.foldl (cstep vars v) q).2.length ≤ q.2.length + l.length
  | [], q => by simp
  | c :: l, q => by
    have h := cfold_small vars v l (cstep vars v q c)
    have : (cstep vars v q c).1.length ≤ q.1.length + 1 ∧ (cstep vars v q c).2.length ≤ q.2.length + 1 := by
      unfold cstep
      split
      · omega
      · split
        · simp
        · split
          · simp
          · split
            · simp
            · omega
    simp only [List.foldl_cons, List.length_cons]
    omega
theorem graphOfR (n : Nat) (xs : List Cell) (ys : List Con) (A1 A2 : Option Addr) (c1 c2 : Nat) (w : World) (h1 : RCells w A1 xs) (h2 : RCons w A2 ys) (hr : rightB ⟨n, xs, ys⟩ = true) :
    Calls Try.prog 31 #[.agg #[.int .i64 n, .slice A1 xs.length c1, .slice A2 ys.length c2]] w fun e w' => ∃ A B C, e = .returned (.agg #[.int .i64 n, .slice A (2 * n) (2 * n), .slice B n n, .slice C (2 * n) (2 * n)]) ∧
      RRows w' A (gfold ⟨n, xs, ys⟩).1 ∧ RRows w' B (gfold ⟨n, xs, ys⟩).2 ∧ RowR 1 dB w' C (looseB ⟨n, xs, ys⟩ ++ List.replicate n true) ∧ Below w.heap.size w w' := by
  refine (graphOfC ⟨n, xs, ys⟩ A1 A2 c1 c2 w h1 h2).mono ?_
  rintro e w' ⟨A, B, C, he, k1, k2, k3, hb⟩
  have hg : graphOf ⟨n, xs, ys⟩ = ⟨n, (gfold ⟨n, xs, ys⟩).1, (gfold ⟨n, xs, ys⟩).2, looseB ⟨n, xs, ys⟩ ++ List.replicate n true⟩ := by
    rw [graphOf, if_pos hr]
    simp
  rw [hg] at he k1 k2 k3
  have hl := gfold_len (n : Int) ys (List.replicate (2 * n) [], List.replicate n [])
  simp only [List.length_replicate] at hl
  have e1 : (gfold ⟨n, xs, ys⟩).1.length = 2 * n := by rw [gfold]; simpa using hl.1
  have e2 : (gfold ⟨n, xs, ys⟩).2.length = n := by rw [gfold]; simpa using hl.2
  have e3 : (looseB ⟨n, xs, ys⟩ ++ List.replicate n true).length = 2 * n := by rw [List.length_append, looseB_len, List.length_replicate]; simp; omega
  simp only [e1, e2, e3] at he
  exact ⟨A, B, C, he, k1, k2, k3, hb⟩
theorem awake15 (w : World) : Calls Try.prog 30 #[] w fun e w' => e = .returned (.bool true) ∧ Below w.heap.size w w' := by
  refine enterR (args := []) tabOk Try.func30 rfl Try.ntmps30 rfl ?_; conv => whnf
  refine wl_bs tabOk 35 4 rfl rfl rfl rfl rfl rfl rfl rfl rfl rfl ?_
  intro g2 w2 hn2
  refine run_l tabOk ?_
  conv => whnf
  refine wl_C fn31 (graphOfR 2 [] [⟨3, 0, 1, []⟩] none (some ⟨g2, 0, none⟩) 0 1 w2 (RowR.nil ..) (row_of_blk hn2.blk (Elems.one rfl (dCon_nil _ _ _ _ (by decide) (by decide) (by decide))) (by simp)) (by decide)) rfl rfl rfl rfl rfl rfl rfl ?_
  rintro _ w3 ⟨A, B, C, rfl, k1, k2, k3, hB3⟩
  have e1 : (gfold ⟨(2 : Nat), [], [⟨3, 0, 1, []⟩]⟩).1 = [[3], [], [], []] := by decide
  rw [e1] at k1
  have hB := hn2.up (Below.refl _ _)
  have hB := bup hB hB3
  refine ⟨_, rfl, run_l tabOk ?_⟩
  conv => whnf
  refine wl_alloc tabOk rfl rfl rfl rfl rfl rfl ?_
  intro g4 w4 hn4
  refine wl_Sa tabOk hn4.blk rfl rfl rfl rfl rfl (by simp [Value.oneCell']) rfl rfl ?_
  intro w5 hp5
  have hB5 : Below w3.heap.size w3 w5 := hp5.below hn4.below (by have := hn4.at_; omega) (by have := hn4.size; omega)
  have hb5 := hp5.blk
  obtain ⟨x, ad, D, dc, hx, rfl, e0, _, hr⟩ := rowsE (k1.up (stays_S (stays_I _)) hB5) 0 (by simp)
  have hx' : x = [3] := hx.out.symm
  subst hx'
  obtain ⟨y, ad2, hy, rfl, f0, _⟩ := intsE hr.out 0 (by simp)
  have hy' : y = 3 := hy.out.symm
  subst hy'
  have e0 : w5.cell? (ad.add (0 * 1)) = some (.slice (some ad2) 1 dc) := e0
  refine run_l tabOk ?_
  conv => whnf
  (repeat' (first | (refine wl_Lg tabOk hb5 rfl rfl rfl rfl rfl rfl rfl (run_l tabOk ?_); conv => whnf) | (refine wl_L tabOk rfl rfl rfl rfl rfl rfl e0 (run_l tabOk ?_); conv => whnf) | (refine wl_L tabOk rfl rfl rfl rfl rfl rfl f0 (run_l tabOk ?_); conv => whnf) | (refine wl_X tabOk 33 1 rfl rfl rfl rfl rfl rfl rfl (by omega) (by omega) (run_l tabOk ?_); conv => whnf) | (refine wl_X tabOk 3 1 rfl rfl rfl rfl rfl rfl rfl (by omega) (by omega) (run_l tabOk ?_); conv => whnf) | (refine wl_add rfl rfl rfl rfl rfl rfl (by omega) (by omega) (run_l tabOk ?_); conv => whnf) | (refine wl_sub rfl rfl rfl rfl rfl rfl (by omega) (by omega) (run_l tabOk ?_); conv => whnf) | (refine wl_cv tabOk .i64 rfl rfl rfl (by simp only [inK]; omega) rfl rfl rfl (run_l tabOk ?_); conv => whnf) | (refine wl_cv tabOk .u8 rfl rfl rfl (by simp only [inK]; omega) rfl rfl rfl (run_l tabOk ?_); conv => whnf) | (refine wl_cv tabOk .u16 rfl rfl rfl (by simp only [inK]; omega) rfl rfl rfl (run_l tabOk ?_); conv => whnf) | (refine wl_cv tabOk .i32 rfl rfl rfl (by simp only [inK]; omega) rfl rfl rfl (run_l tabOk ?_); conv => whnf) | (refine wl_cv tabOk .u32 rfl rfl rfl (by simp only [inK]; omega) rfl rfl rfl (run_l tabOk ?_); conv => whnf) | (refine wl_cv tabOk .u64 rfl rfl rfl (by simp only [inK]; omega) rfl rfl rfl (run_l tabOk ?_); conv => whnf) | (refine wl_cvw tabOk .i64 rfl rfl rfl rfl rfl rfl (run_l tabOk ?_); conv => whnf) | (refine wl_cvw tabOk .u8 rfl rfl rfl rfl rfl rfl (run_l tabOk ?_); conv => whnf) | (refine wl_cvw tabOk .u16 rfl rfl rfl rfl rfl rfl (run_l tabOk ?_); conv => whnf) | (refine wl_cvw tabOk .i32 rfl rfl rfl rfl rfl rfl (run_l tabOk ?_); conv => whnf) | (refine wl_cvw tabOk .u32 rfl rfl rfl rfl rfl rfl (run_l tabOk ?_); conv => whnf) | (refine wl_cvw tabOk .u64 rfl rfl rfl rfl rfl rfl (run_l tabOk ?_); conv => whnf) | (refine wl_rem rfl rfl rfl rfl rfl rfl (by omega) (by omega) (fun r hr hr0 hr1 hr2 => run_l tabOk ?_); conv => whnf) | (refine wl_quo rfl rfl rfl rfl rfl rfl (by omega) (by omega) (by simp only [inK]; omega) (run_l tabOk ?_); conv => whnf) | (refine wl_mul rfl rfl rfl rfl rfl rfl (by omega) (by omega) (run_l tabOk ?_); conv => whnf) | (refine gs_dt (by first | assumption | omega) ?_; conv => whnf) | (refine gs_df (by first | assumption | omega) ?_; conv => whnf) | (refine gs_t (by assumption) ?_; conv => whnf) | (refine gs_f (by assumption) ?_; conv => whnf) | (refine gs_d (fun hg => ?_) (fun hg => ?_) <;> conv => whnf) | (refine gs_n (fun hg => ?_) (fun hg => ?_) <;> conv => whnf) | (refine gs_nb (fun hg => ?_) (fun hg => ?_) <;> conv => whnf) | (refine gs_b (fun hg => ?_) (fun hg => ?_) <;> conv => whnf) | refine fin1 rfl rfl ?_))
  exact ⟨retB (by simp), bup hB hB5⟩
theorem retB' {b : Bool} (h : b = true) : Ending.returned (.bool b) = .returned (.bool true) := by rw [h]
set_option maxHeartbeats 8000000 in
theorem lawGraphRaw (s : Sys) (A1 A2 : Option Addr) (c1 c2 : Nat) (w : World) (h1 : RCells w A1 s.cells) (h2 : RCons w A2 s.cons) (_ : IntKind.i64.min ≤ s.vars ∧ s.vars ≤ IntKind.i64.max) :
    Calls Try.prog 11 #[.agg #[.int .i64 s.vars, .slice A1 s.cells.length c1, .slice A2 s.cons.length c2]] w fun e w' => e = .returned (.bool true) ∧ Below w.heap.size w w' := by
  have m1 := h1.1
  have m2 := h2.1
  refine enterR (args := [.agg #[.int .i64 s.vars, .slice A1 s.cells.length c1, .slice A2 s.cons.length c2]]) tabOk Try.func11 rfl Try.ntmps11 rfl ?_; conv => whnf
  refine wl_box rfl rfl rfl rfl rfl rfl ?_
  intro g1 w1 hn1
  refine run_l tabOk ?_
  conv => whnf
  refine wl_C fn30 (awake15 _) rfl rfl rfl rfl rfl rfl rfl ?_
  rintro _ w2 ⟨rfl, hB2⟩
  have hb := blk_up hB2 hn1.blk
  have hB := bup hn1.below hB2
  refine ⟨_, rfl, run_l tabOk ?_⟩
  conv => whnf
  (repeat' (first | (refine wl_Lg tabOk hb rfl rfl rfl rfl rfl rfl rfl (run_l tabOk ?_); conv => whnf) | (refine wl_add rfl rfl rfl rfl rfl rfl (by omega) (by omega) (run_l tabOk ?_); conv => whnf) | (refine wl_sub rfl rfl rfl rfl rfl rfl (by omega) (by omega) (run_l tabOk ?_); conv => whnf) | (refine wl_cv tabOk .i64 rfl rfl rfl (by simp only [inK]; omega) rfl rfl rfl (run_l tabOk ?_); conv => whnf) | (refine wl_cv tabOk .u8 rfl rfl rfl (by simp only [inK]; omega) rfl rfl rfl (run_l tabOk ?_); conv => whnf) | (refine wl_cv tabOk .u16 rfl rfl rfl (by simp only [inK]; omega) rfl rfl rfl (run_l tabOk ?_); conv => whnf) | (refine wl_cv tabOk .i32 rfl rfl rfl (by simp only [inK]; omega) rfl rfl rfl (run_l tabOk ?_); conv => whnf) | (refine wl_cv tabOk .u32 rfl rfl rfl (by simp only [inK]; omega) rfl rfl rfl (run_l tabOk ?_); conv => whnf) | (refine wl_cv tabOk .u64 rfl rfl rfl (by simp only [inK]; omega) rfl rfl rfl (run_l tabOk ?_); conv => whnf) | (refine wl_cvw tabOk .i64 rfl rfl rfl rfl rfl rfl (run_l tabOk ?_); conv => whnf) | (refine wl_cvw tabOk .u8 rfl rfl rfl rfl rfl rfl (run_l tabOk ?_); conv => whnf) | (refine wl_cvw tabOk .u16 rfl rfl rfl rfl rfl rfl (run_l tabOk ?_); conv => whnf) | (refine wl_cvw tabOk .i32 rfl rfl rfl rfl rfl rfl (run_l tabOk ?_); conv => whnf) | (refine wl_cvw tabOk .u32 rfl rfl rfl rfl rfl rfl (run_l tabOk ?_); conv => whnf) | (refine wl_cvw tabOk .u64 rfl rfl rfl rfl rfl rfl (run_l tabOk ?_); conv => whnf) | (refine wl_rem rfl rfl rfl rfl rfl rfl (by omega) (by omega) (fun r hr hr0 hr1 hr2 => run_l tabOk ?_); conv => whnf) | (refine wl_quo rfl rfl rfl rfl rfl rfl (by omega) (by omega) (by simp only [inK]; omega) (run_l tabOk ?_); conv => whnf) | (refine wl_mul rfl rfl rfl rfl rfl rfl (by omega) (by omega) (run_l tabOk ?_); conv => whnf) | (refine gs_dt (by first | assumption | omega) ?_; conv => whnf) | (refine gs_df (by first | assumption | omega) ?_; conv => whnf) | (refine gs_t (by assumption) ?_; conv => whnf) | (refine gs_f (by assumption) ?_; conv => whnf) | (refine gs_d (fun hg => ?_) (fun hg => ?_) <;> conv => whnf) | (refine gs_n (fun hg => ?_) (fun hg => ?_) <;> conv => whnf) | (refine gs_nb (fun hg => ?_) (fun hg => ?_) <;> conv => whnf) | (refine gs_b (fun hg => ?_) (fun hg => ?_) <;> conv => whnf) | refine fin1 rfl rfl ?_))
  all_goals try (refine wl_C fn30 (awake15 _) rfl rfl rfl rfl rfl rfl rfl ?_; rintro _ w3 ⟨rfl, hB3⟩; refine ⟨_, rfl, run_l tabOk ?_⟩; (conv => whnf); (repeat' (first | (refine wl_add rfl rfl rfl rfl rfl rfl (by omega) (by omega) (run_l tabOk ?_); conv => whnf) | (refine wl_sub rfl rfl rfl rfl rfl rfl (by omega) (by omega) (run_l tabOk ?_); conv => whnf) | (refine wl_cv tabOk .i64 rfl rfl rfl (by simp only [inK]; omega) rfl rfl rfl (run_l tabOk ?_); conv => whnf) | (refine wl_cv tabOk .u8 rfl rfl rfl (by simp only [inK]; omega) rfl rfl rfl (run_l tabOk ?_); conv => whnf) | (refine wl_cv tabOk .u16 rfl rfl rfl (by simp only [inK]; omega) rfl rfl rfl (run_l tabOk ?_); conv => whnf) | (refine wl_cv tabOk .i32 rfl rfl rfl (by simp only [inK]; omega) rfl rfl rfl (run_l tabOk ?_); conv => whnf) | (refine wl_cv tabOk .u32 rfl rfl rfl (by simp only [inK]; omega) rfl rfl rfl (run_l tabOk ?_); conv => whnf) | (refine wl_cv tabOk .u64 rfl rfl rfl (by simp only [inK]; omega) rfl rfl rfl (run_l tabOk ?_); conv => whnf) | (refine wl_cvw tabOk .i64 rfl rfl rfl rfl rfl rfl (run_l tabOk ?_); conv => whnf) | (refine wl_cvw tabOk .u8 rfl rfl rfl rfl rfl rfl (run_l tabOk ?_); conv => whnf) | (refine wl_cvw tabOk .u16 rfl rfl rfl rfl rfl rfl (run_l tabOk ?_); conv => whnf) | (refine wl_cvw tabOk .i32 rfl rfl rfl rfl rfl rfl (run_l tabOk ?_); conv => whnf) | (refine wl_cvw tabOk .u32 rfl rfl rfl rfl rfl rfl (run_l tabOk ?_); conv => whnf) | (refine wl_cvw tabOk .u64 rfl rfl rfl rfl rfl rfl (run_l tabOk ?_); conv => whnf) | (refine wl_rem rfl rfl rfl rfl rfl rfl (by omega) (by omega) (fun r hr hr0 hr1 hr2 => run_l tabOk ?_); conv => whnf) | (refine wl_quo rfl rfl rfl rfl rfl rfl (by omega) (by omega) (by simp only [inK]; omega) (run_l tabOk ?_); conv => whnf) | (refine wl_mul rfl rfl rfl rfl rfl rfl (by omega) (by omega) (run_l tabOk ?_); conv => whnf) | (refine gs_dt (by first | assumption | omega) ?_; conv => whnf) | (refine gs_df (by first | assumption | omega) ?_; conv => whnf) | (refine gs_t (by assumption) ?_; conv => whnf) | (refine gs_f (by assumption) ?_; conv => whnf) | (refine gs_d (fun hg => ?_) (fun hg => ?_) <;> conv => whnf) | (refine gs_n (fun hg => ?_) (fun hg => ?_) <;> conv => whnf) | (refine gs_nb (fun hg => ?_) (fun hg => ?_) <;> conv => whnf) | (refine gs_b (fun hg => ?_) (fun hg => ?_) <;> conv => whnf) | refine fin1 rfl rfl ?_)); exact ⟨rfl, bup hB hB3⟩)
  (repeat' (first | (refine wl_Lag tabOk hb rfl rfl rfl rfl rfl rfl (run_l tabOk ?_); conv => whnf) | (refine wl_add rfl rfl rfl rfl rfl rfl (by omega) (by omega) (run_l tabOk ?_); conv => whnf) | (refine wl_sub rfl rfl rfl rfl rfl rfl (by omega) (by omega) (run_l tabOk ?_); conv => whnf) | (refine wl_cv tabOk .i64 rfl rfl rfl (by simp only [inK]; omega) rfl rfl rfl (run_l tabOk ?_); conv => whnf) | (refine wl_cv tabOk .u8 rfl rfl rfl (by simp only [inK]; omega) rfl rfl rfl (run_l tabOk ?_); conv => whnf) | (refine wl_cv tabOk .u16 rfl rfl rfl (by simp only [inK]; omega) rfl rfl rfl (run_l tabOk ?_); conv => whnf) | (refine wl_cv tabOk .i32 rfl rfl rfl (by simp only [inK]; omega) rfl rfl rfl (run_l tabOk ?_); conv => whnf) | (refine wl_cv tabOk .u32 rfl rfl rfl (by simp only [inK]; omega) rfl rfl rfl (run_l tabOk ?_); conv => whnf) | (refine wl_cv tabOk .u64 rfl rfl rfl (by simp only [inK]; omega) rfl rfl rfl (run_l tabOk ?_); conv => whnf) | (refine wl_cvw tabOk .i64 rfl rfl rfl rfl rfl rfl (run_l tabOk ?_); conv => whnf) | (refine wl_cvw tabOk .u8 rfl rfl rfl rfl rfl rfl (run_l tabOk ?_); conv => whnf) | (refine wl_cvw tabOk .u16 rfl rfl rfl rfl rfl rfl (run_l tabOk ?_); conv => whnf) | (refine wl_cvw tabOk .i32 rfl rfl rfl rfl rfl rfl (run_l tabOk ?_); conv => whnf) | (refine wl_cvw tabOk .u32 rfl rfl rfl rfl rfl rfl (run_l tabOk ?_); conv => whnf) | (refine wl_cvw tabOk .u64 rfl rfl rfl rfl rfl rfl (run_l tabOk ?_); conv => whnf) | (refine wl_rem rfl rfl rfl rfl rfl rfl (by omega) (by omega) (fun r hr hr0 hr1 hr2 => run_l tabOk ?_); conv => whnf) | (refine wl_quo rfl rfl rfl rfl rfl rfl (by omega) (by omega) (by simp only [inK]; omega) (run_l tabOk ?_); conv => whnf) | (refine wl_mul rfl rfl rfl rfl rfl rfl (by omega) (by omega) (run_l tabOk ?_); conv => whnf) | (refine gs_dt (by first | assumption | omega) ?_; conv => whnf) | (refine gs_df (by first | assumption | omega) ?_; conv => whnf) | (refine gs_t (by assumption) ?_; conv => whnf) | (refine gs_f (by assumption) ?_; conv => whnf) | (refine gs_d (fun hg => ?_) (fun hg => ?_) <;> conv => whnf) | (refine gs_n (fun hg => ?_) (fun hg => ?_) <;> conv => whnf) | (refine gs_nb (fun hg => ?_) (fun hg => ?_) <;> conv => whnf) | (refine gs_b (fun hg => ?_) (fun hg => ?_) <;> conv => whnf) | refine fin1 rfl rfl ?_))
  refine wl_C fn31 (graphOfC s A1 A2 c1 c2 w2 (h1.up stays_Cell hB) (h2.up stays_Con hB)) rfl rfl rfl rfl rfl rfl rfl ?_
  rintro _ w3 ⟨A, B, C, rfl, _, _, _, hB3⟩
  have hb := blk_up hB3 hb
  have hB := bup hB hB3
  refine ⟨_, rfl, run_l tabOk ?_⟩
  conv => whnf
  refine wl_alloc tabOk rfl rfl rfl rfl rfl rfl ?_
  intro g3 w4 hn4
  refine wl_Sa tabOk hn4.blk rfl rfl rfl rfl rfl (by simp [Value.oneCell']) rfl rfl ?_
  intro w5 hp5
  have hB5 : Below w3.heap.size w3 w5 := hp5.below hn4.below (by have := hn4.at_; omega) (by have := hn4.size; omega)
  have hb3 := hp5.blk
  have hb := blk_up hB5 hb
  have hB := bup hB hB5
  refine run_l tabOk ?_
  conv => whnf
  (repeat' (first | (refine wl_Lag tabOk hb rfl rfl rfl rfl rfl rfl (run_l tabOk ?_); conv => whnf) | (refine wl_add rfl rfl rfl rfl rfl rfl (by omega) (by omega) (run_l tabOk ?_); conv => whnf) | (refine wl_sub rfl rfl rfl rfl rfl rfl (by omega) (by omega) (run_l tabOk ?_); conv => whnf) | (refine wl_cv tabOk .i64 rfl rfl rfl (by simp only [inK]; omega) rfl rfl rfl (run_l tabOk ?_); conv => whnf) | (refine wl_cv tabOk .u8 rfl rfl rfl (by simp only [inK]; omega) rfl rfl rfl (run_l tabOk ?_); conv => whnf) | (refine wl_cv tabOk .u16 rfl rfl rfl (by simp only [inK]; omega) rfl rfl rfl (run_l tabOk ?_); conv => whnf) | (refine wl_cv tabOk .i32 rfl rfl rfl (by simp only [inK]; omega) rfl rfl rfl (run_l tabOk ?_); conv => whnf) | (refine wl_cv tabOk .u32 rfl rfl rfl (by simp only [inK]; omega) rfl rfl rfl (run_l tabOk ?_); conv => whnf) | (refine wl_cv tabOk .u64 rfl rfl rfl (by simp only [inK]; omega) rfl rfl rfl (run_l tabOk ?_); conv => whnf) | (refine wl_cvw tabOk .i64 rfl rfl rfl rfl rfl rfl (run_l tabOk ?_); conv => whnf) | (refine wl_cvw tabOk .u8 rfl rfl rfl rfl rfl rfl (run_l tabOk ?_); conv => whnf) | (refine wl_cvw tabOk .u16 rfl rfl rfl rfl rfl rfl (run_l tabOk ?_); conv => whnf) | (refine wl_cvw tabOk .i32 rfl rfl rfl rfl rfl rfl (run_l tabOk ?_); conv => whnf) | (refine wl_cvw tabOk .u32 rfl rfl rfl rfl rfl rfl (run_l tabOk ?_); conv => whnf) | (refine wl_cvw tabOk .u64 rfl rfl rfl rfl rfl rfl (run_l tabOk ?_); conv => whnf) | (refine wl_rem rfl rfl rfl rfl rfl rfl (by omega) (by omega) (fun r hr hr0 hr1 hr2 => run_l tabOk ?_); conv => whnf) | (refine wl_quo rfl rfl rfl rfl rfl rfl (by omega) (by omega) (by simp only [inK]; omega) (run_l tabOk ?_); conv => whnf) | (refine wl_mul rfl rfl rfl rfl rfl rfl (by omega) (by omega) (run_l tabOk ?_); conv => whnf) | (refine gs_dt (by first | assumption | omega) ?_; conv => whnf) | (refine gs_df (by first | assumption | omega) ?_; conv => whnf) | (refine gs_t (by assumption) ?_; conv => whnf) | (refine gs_f (by assumption) ?_; conv => whnf) | (refine gs_d (fun hg => ?_) (fun hg => ?_) <;> conv => whnf) | (refine gs_n (fun hg => ?_) (fun hg => ?_) <;> conv => whnf) | (refine gs_nb (fun hg => ?_) (fun hg => ?_) <;> conv => whnf) | (refine gs_b (fun hg => ?_) (fun hg => ?_) <;> conv => whnf) | refine fin1 rfl rfl ?_))
  refine wl_C fn21 (refRight s A1 A2 c1 c2 w5 (h1.up stays_Cell hB) (h2.up stays_Con hB)) rfl rfl rfl rfl rfl rfl rfl ?_
  rintro _ w6 ⟨rfl, hB6⟩
  have hb := blk_up hB6 hb
  have hb3 := blk_up hB6 hb3
  have hB := bup hB hB6
  refine ⟨_, rfl, run_l tabOk ?_⟩
  conv => whnf
  (repeat' (first | (refine wl_add rfl rfl rfl rfl rfl rfl (by omega) (by omega) (run_l tabOk ?_); conv => whnf) | (refine wl_sub rfl rfl rfl rfl rfl rfl (by omega) (by omega) (run_l tabOk ?_); conv => whnf) | (refine wl_cv tabOk .i64 rfl rfl rfl (by simp only [inK]; omega) rfl rfl rfl (run_l tabOk ?_); conv => whnf) | (refine wl_cv tabOk .u8 rfl rfl rfl (by simp only [inK]; omega) rfl rfl rfl (run_l tabOk ?_); conv => whnf) | (refine wl_cv tabOk .u16 rfl rfl rfl (by simp only [inK]; omega) rfl rfl rfl (run_l tabOk ?_); conv => whnf) | (refine wl_cv tabOk .i32 rfl rfl rfl (by simp only [inK]; omega) rfl rfl rfl (run_l tabOk ?_); conv => whnf) | (refine wl_cv tabOk .u32 rfl rfl rfl (by simp only [inK]; omega) rfl rfl rfl (run_l tabOk ?_); conv => whnf) | (refine wl_cv tabOk .u64 rfl rfl rfl (by simp only [inK]; omega) rfl rfl rfl (run_l tabOk ?_); conv => whnf) | (refine wl_cvw tabOk .i64 rfl rfl rfl rfl rfl rfl (run_l tabOk ?_); conv => whnf) | (refine wl_cvw tabOk .u8 rfl rfl rfl rfl rfl rfl (run_l tabOk ?_); conv => whnf) | (refine wl_cvw tabOk .u16 rfl rfl rfl rfl rfl rfl (run_l tabOk ?_); conv => whnf) | (refine wl_cvw tabOk .i32 rfl rfl rfl rfl rfl rfl (run_l tabOk ?_); conv => whnf) | (refine wl_cvw tabOk .u32 rfl rfl rfl rfl rfl rfl (run_l tabOk ?_); conv => whnf) | (refine wl_cvw tabOk .u64 rfl rfl rfl rfl rfl rfl (run_l tabOk ?_); conv => whnf) | (refine wl_rem rfl rfl rfl rfl rfl rfl (by omega) (by omega) (fun r hr hr0 hr1 hr2 => run_l tabOk ?_); conv => whnf) | (refine wl_quo rfl rfl rfl rfl rfl rfl (by omega) (by omega) (by simp only [inK]; omega) (run_l tabOk ?_); conv => whnf) | (refine wl_mul rfl rfl rfl rfl rfl rfl (by omega) (by omega) (run_l tabOk ?_); conv => whnf) | (refine gs_dt (by first | assumption | omega) ?_; conv => whnf) | (refine gs_df (by first | assumption | omega) ?_; conv => whnf) | (refine gs_t (by assumption) ?_; conv => whnf) | (refine gs_f (by assumption) ?_; conv => whnf) | (refine gs_d (fun hg => ?_) (fun hg => ?_) <;> conv => whnf) | (refine gs_n (fun hg => ?_) (fun hg => ?_) <;> conv => whnf) | (refine gs_nb (fun hg => ?_) (fun hg => ?_) <;> conv => whnf) | (refine gs_b (fun hg => ?_) (fun hg => ?_) <;> conv => whnf) | refine fin1 rfl rfl ?_))
  · rename_i hr
    have hr0 : 0 ≤ s.vars ∧ s.vars ≤ 16384 := by
      have hr := hg
      simp only [rightB, bigOk, Bool.and_eq_true, decide_eq_true_eq] at hr
      exact ⟨hr.1.1.1.1.1, hr.1.1.1.1.2⟩
    have hgo : graphOf s = ⟨s.vars, (gfold s).1, (gfold s).2, looseB s ++ List.replicate s.vars.toNat true⟩ := by rw [graphOf, if_pos hg]
    have hl := gfold_len s.vars s.cons (List.replicate (2 * s.vars.toNat) [], List.replicate s.vars.toNat [])
    simp only [List.length_replicate] at hl
    have e1 : (gfold s).1.length = 2 * s.vars.toNat := hl.1
    rw [hgo] at hb3
    simp only [e1] at hb3
    (repeat' (first | (refine wl_Lg tabOk hb3 rfl rfl rfl rfl rfl rfl rfl (run_l tabOk ?_); conv => whnf) | (refine wl_Lg tabOk hb rfl rfl rfl rfl rfl rfl rfl (run_l tabOk ?_); conv => whnf) | (refine wl_add rfl rfl rfl rfl rfl rfl (by omega) (by omega) (run_l tabOk ?_); conv => whnf) | (refine wl_sub rfl rfl rfl rfl rfl rfl (by omega) (by omega) (run_l tabOk ?_); conv => whnf) | (refine wl_cv tabOk .i64 rfl rfl rfl (by simp only [inK]; omega) rfl rfl rfl (run_l tabOk ?_); conv => whnf) | (refine wl_cv tabOk .u8 rfl rfl rfl (by simp only [inK]; omega) rfl rfl rfl (run_l tabOk ?_); conv => whnf) | (refine wl_cv tabOk .u16 rfl rfl rfl (by simp only [inK]; omega) rfl rfl rfl (run_l tabOk ?_); conv => whnf) | (refine wl_cv tabOk .i32 rfl rfl rfl (by simp only [inK]; omega) rfl rfl rfl (run_l tabOk ?_); conv => whnf) | (refine wl_cv tabOk .u32 rfl rfl rfl (by simp only [inK]; omega) rfl rfl rfl (run_l tabOk ?_); conv => whnf) | (refine wl_cv tabOk .u64 rfl rfl rfl (by simp only [inK]; omega) rfl rfl rfl (run_l tabOk ?_); conv => whnf) | (refine wl_cvw tabOk .i64 rfl rfl rfl rfl rfl rfl (run_l tabOk ?_); conv => whnf) | (refine wl_cvw tabOk .u8 rfl rfl rfl rfl rfl rfl (run_l tabOk ?_); conv => whnf) | (refine wl_cvw tabOk .u16 rfl rfl rfl rfl rfl rfl (run_l tabOk ?_); conv => whnf) | (refine wl_cvw tabOk .i32 rfl rfl rfl rfl rfl rfl (run_l tabOk ?_); conv => whnf) | (refine wl_cvw tabOk .u32 rfl rfl rfl rfl rfl rfl (run_l tabOk ?_); conv => whnf) | (refine wl_cvw tabOk .u64 rfl rfl rfl rfl rfl rfl (run_l tabOk ?_); conv => whnf) | (refine wl_rem rfl rfl rfl rfl rfl rfl (by omega) (by omega) (fun r hr hr0 hr1 hr2 => run_l tabOk ?_); conv => whnf) | (refine wl_quo rfl rfl rfl rfl rfl rfl (by omega) (by omega) (by simp only [inK]; omega) (run_l tabOk ?_); conv => whnf) | (refine wl_mul rfl rfl rfl rfl rfl rfl (by omega) (by omega) (run_l tabOk ?_); conv => whnf) | (refine gs_dt (by first | assumption | omega) ?_; conv => whnf) | (refine gs_df (by first | assumption | omega) ?_; conv => whnf) | (refine gs_t (by assumption) ?_; conv => whnf) | (refine gs_f (by assumption) ?_; conv => whnf) | (refine gs_d (fun hg => ?_) (fun hg => ?_) <;> conv => whnf) | (refine gs_n (fun hg => ?_) (fun hg => ?_) <;> conv => whnf) | (refine gs_nb (fun hg => ?_) (fun hg => ?_) <;> conv => whnf) | (refine gs_b (fun hg => ?_) (fun hg => ?_) <;> conv => whnf) | refine fin1 rfl rfl ?_))
    all_goals exact ⟨retB' (by simp; omega), hB⟩
  · have hgo : graphOf s = ⟨0, [], [], []⟩ := by rw [graphOf, if_neg (by rw [hg]; simp)]
    rw [hgo] at hb3
    (repeat' (first | (refine wl_Lg tabOk hb3 rfl rfl rfl rfl rfl rfl rfl (run_l tabOk ?_); conv => whnf) | (refine wl_Lg tabOk hb rfl rfl rfl rfl rfl rfl rfl (run_l tabOk ?_); conv => whnf) | (refine wl_add rfl rfl rfl rfl rfl rfl (by omega) (by omega) (run_l tabOk ?_); conv => whnf) | (refine wl_sub rfl rfl rfl rfl rfl rfl (by omega) (by omega) (run_l tabOk ?_); conv => whnf) | (refine wl_cv tabOk .i64 rfl rfl rfl (by simp only [inK]; omega) rfl rfl rfl (run_l tabOk ?_); conv => whnf) | (refine wl_cv tabOk .u8 rfl rfl rfl (by simp only [inK]; omega) rfl rfl rfl (run_l tabOk ?_); conv => whnf) | (refine wl_cv tabOk .u16 rfl rfl rfl (by simp only [inK]; omega) rfl rfl rfl (run_l tabOk ?_); conv => whnf) | (refine wl_cv tabOk .i32 rfl rfl rfl (by simp only [inK]; omega) rfl rfl rfl (run_l tabOk ?_); conv => whnf) | (refine wl_cv tabOk .u32 rfl rfl rfl (by simp only [inK]; omega) rfl rfl rfl (run_l tabOk ?_); conv => whnf) | (refine wl_cv tabOk .u64 rfl rfl rfl (by simp only [inK]; omega) rfl rfl rfl (run_l tabOk ?_); conv => whnf) | (refine wl_cvw tabOk .i64 rfl rfl rfl rfl rfl rfl (run_l tabOk ?_); conv => whnf) | (refine wl_cvw tabOk .u8 rfl rfl rfl rfl rfl rfl (run_l tabOk ?_); conv => whnf) | (refine wl_cvw tabOk .u16 rfl rfl rfl rfl rfl rfl (run_l tabOk ?_); conv => whnf) | (refine wl_cvw tabOk .i32 rfl rfl rfl rfl rfl rfl (run_l tabOk ?_); conv => whnf) | (refine wl_cvw tabOk .u32 rfl rfl rfl rfl rfl rfl (run_l tabOk ?_); conv => whnf) | (refine wl_cvw tabOk .u64 rfl rfl rfl rfl rfl rfl (run_l tabOk ?_); conv => whnf) | (refine wl_rem rfl rfl rfl rfl rfl rfl (by omega) (by omega) (fun r hr hr0 hr1 hr2 => run_l tabOk ?_); conv => whnf) | (refine wl_quo rfl rfl rfl rfl rfl rfl (by omega) (by omega) (by simp only [inK]; omega) (run_l tabOk ?_); conv => whnf) | (refine wl_mul rfl rfl rfl rfl rfl rfl (by omega) (by omega) (run_l tabOk ?_); conv => whnf) | (refine gs_dt (by first | assumption | omega) ?_; conv => whnf) | (refine gs_df (by first | assumption | omega) ?_; conv => whnf) | (refine gs_t (by assumption) ?_; conv => whnf) | (refine gs_f (by assumption) ?_; conv => whnf) | (refine gs_d (fun hg => ?_) (fun hg => ?_) <;> conv => whnf) | (refine gs_n (fun hg => ?_) (fun hg => ?_) <;> conv => whnf) | (refine gs_nb (fun hg => ?_) (fun hg => ?_) <;> conv => whnf) | (refine gs_b (fun hg => ?_) (fun hg => ?_) <;> conv => whnf) | refine fin1 rfl rfl ?_))
    all_goals exact ⟨retB' (by simp), hB⟩
end Go.Proofs.Ytmlepfngcpekiaa
