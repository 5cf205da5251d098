/- Several texts of one claim in one file: SY19 L1209 AW19 AO17 PL17. -/
import Derived.Test.YtjggjhgbobmkhaaC18
import Derived.Test.YtjggjhgbobmkhaaC19
import Derived.Test.YtjggjhgbobmkhaaC20
import Derived.Test.YtjggjhgbobmkhaaC13
/- The walks of shrink.Labels and shrink.By. -/
namespace Go.Proofs.Ytjggjhgbobmkhaa
open Go.RowKit
set_option linter.unusedVariables false
set_option linter.unusedSimpArgs false
set_option maxRecDepth 100000
/-- By which labels a mode goes. -/
structure LabM (n : Nat) (xs : List Cell) (ys : List Con) (mode : Int) (lab : Nat → Int) : Prop where
  ovs : mode = 1 → ∃ kn of, KnOk (gInto n xs ys) kn of ∧ ∀ v, v < n → lab v = gl n xs ys kn of v
  hu : mode = 2 → Canon n lab (SrcE n xs.length ⟨n, xs, ys⟩) (SrcZ n xs.length ⟨n, xs, ys⟩)
  plain : ¬ mode = 1 → ¬ mode = 2 → ∀ v, v < n → lab v = (v : Int)
theorem ri_fZ {w : World} {g n : Nat} {f : Nat → Int} (hn : n ≤ 16384) (h : w.heap[g]? = some (.cells (fZ n f).toArray 3 (0, 0))) (hb : ∀ v, v < n → -9223372036854775808 ≤ f v ∧ f v ≤ 9223372036854775807) : RI w (some ⟨g, 0, none⟩) ((List.range n).map f) := by
  have e : fZ n f = ((List.range n).map f).map (Value.int .i64) := by simp [fZ]
  rw [e] at h
  refine row_of_blk h ⟨by simp, fun q hq => ?_⟩ (by simp; omega)
  have hq' : q < n := by simpa using hq
  rw [Nat.mul_one, List.drop_eq_getElem_cons (by simpa using hq'), getElem!_pos _ q hq]
  have := hb q hq'
  refine ⟨by simp, ?_, ?_⟩
  · simp; show (-9223372036854775808 : Int) ≤ _; omega
  · simp; show _ ≤ (9223372036854775807 : Int); omega
set_option maxHeartbeats 16000000 in
theorem shLabels (n : Nat) (xs : List Cell) (ys : List Con) (A1 A2 : Option Addr) (c1 c2 : Nat) (mode : Int) (w : World) (hright : rightB ⟨n, xs, ys⟩ = true) (hr1 : RCells w A1 xs) (hr2 : RCons w A2 ys) :
    Calls Try.prog 26 #[.agg #[.int .i64 n, .slice A1 xs.length c1, .slice A2 ys.length c2], .int .u8 mode] w fun e w' => ∃ go lab, e = .returned (.slice (some ⟨go, 0, none⟩) n n) ∧ RI w' (some ⟨go, 0, none⟩) ((List.range n).map lab) ∧ LabM n xs ys mode lab ∧ Below w.heap.size w w' := by
  obtain ⟨hn, hnx, hny⟩ := right_few hright
  refine enterR (args := [.agg #[.int .i64 n, .slice A1 xs.length c1, .slice A2 ys.length c2], .int .u8 mode]) tabOk Try.func26 rfl Try.ntmps26 rfl ?_; conv => whnf
  refine wl_box rfl rfl rfl rfl rfl rfl ?_
  intro g1 w1 hn1
  have hb1 := hn1.blk
  have hB1 := hn1.below
  have hr1 := hr1.up stays_Cell hB1
  have hr2 := hr2.up stays_Con hB1
  clear hn1
  refine run_l tabOk ?_
  by_cases hm1 : mode = 1
  · conv => whnf
    (repeat' (first | (refine wl_Lag tabOk hb1 rfl rfl rfl rfl rfl rfl (run_l tabOk ?_); conv => whnf) | ((first | refine wl_add rfl rfl rfl rfl rfl rfl (by omega) (by omega) (run_l tabOk ?_) | refine gs_dt (by first | assumption | omega) ?_ | refine gs_df (by first | assumption | omega) ?_) <;> conv => whnf) | refine fin1 rfl rfl ?_))
    refine wl_C fn17 (graphOfR n xs ys A1 A2 c1 c2 w1 hr1 hr2 hright) rfl rfl rfl rfl rfl rfl rfl ?_
    rintro _ w6 ⟨A', B', C', rfl, k1, k2, k3, hB6⟩
    have hG : GOk n (gInto n xs ys) (gBases n xs ys) (gLoose n xs ys) := gok hright
    have hni : (gInto n xs ys).length = 2 * n := hG.ni
    have hnb : (gBases n xs ys).length = n := hG.nb
    have hnl : (gLoose n xs ys).length = 2 * n := hG.nl
    refine ⟨_, rfl, run_l tabOk ?_⟩
    conv => whnf
    have hlab := oLabels n (gInto n xs ys) (gBases n xs ys) (gLoose n xs ys) A' B' C' (2 * n) n (2 * n) w6 hG k1 k2 k3
    rw [hni, hnb, hnl] at hlab
    refine wl_C fn24 hlab rfl rfl rfl rfl rfl rfl rfl ?_
    rintro _ w7 ⟨kn, of, ga, hK, rfl, hR, hB7⟩
    refine ⟨_, rfl, run_l tabOk ?_⟩
    conv => whnf
    (repeat' (first | ((first | refine wl_add rfl rfl rfl rfl rfl rfl (by omega) (by omega) (run_l tabOk ?_) | refine gs_dt (by first | assumption | omega) ?_ | refine gs_df (by first | assumption | omega) ?_) <;> conv => whnf) | refine fin1 rfl rfl ?_))
    exact ⟨ga, gl n xs ys kn of, rfl, hR, ⟨fun _ => ⟨kn, of, hK, fun v _ => rfl⟩, fun e => by omega, fun e => absurd hm1 e⟩, bup hB1 (bup hB6 hB7)⟩
  by_cases hm2 : mode = 2
  · conv => whnf
    (repeat' (first | (refine wl_Lg tabOk hb1 rfl rfl rfl rfl rfl rfl rfl (run_l tabOk ?_); conv => whnf) | ((first | refine wl_add rfl rfl rfl rfl rfl rfl (by omega) (by omega) (run_l tabOk ?_) | refine gs_dt (by first | assumption | omega) ?_ | refine gs_df (by first | assumption | omega) ?_) <;> conv => whnf) | refine fin1 rfl rfl ?_))
    refine wc_qx [0, 2, 3, 4] 1 5 (stable_Bw _) tabOk mixed (by kernel_rfl) (Below.refl _ _) ?_; (conv => whnf)
    (repeat' (first | (refine wq_Lg tabOk hb1 rfl rfl rfl rfl rfl rfl rfl (run_q tabOk ?_); conv => whnf) | (refine wq_Lag tabOk hb1 rfl rfl rfl rfl rfl rfl (run_q tabOk ?_); conv => whnf) | ((first | refine wq_add rfl rfl rfl rfl rfl rfl (by omega) (by omega) (run_q tabOk ?_) | refine gs_dt (by first | assumption | omega) ?_ | refine gs_df (by first | assumption | omega) ?_) <;> conv => whnf)))
    intro w6 _ hB6
    conv => whnf
    refine And.intro ?_ trivial
    conv => whnf
    refine wb_C fn17 (graphOfR n xs ys A1 A2 c1 c2 w6 (hr1.up stays_Cell hB6) (hr2.up stays_Con hB6) hright) rfl rfl rfl rfl rfl rfl ?_
    rintro _ w7 ⟨A', B', C', rfl, k1, k2, k3, hB7⟩
    refine ⟨_, rfl, bup hB6 hB7, fun w8 hB8 _ => ?_⟩
    conv => whnf
    have k1 := k1.up stays_Ints hB8
    have k2 := k2.up stays_Ints hB8
    have k3 := k3.up stays_B hB8
    refine wl_C fn16 (huLabelsR (n := n) (xs := xs) (ys := ys) A' B' C' w8 hright k1 k2 k3) rfl rfl rfl rfl rfl rfl rfl ?_
    rintro _ w9 ⟨go, hl, rfl, hrow, hcan, hB9⟩
    refine ⟨_, rfl, run_l tabOk ?_⟩
    conv => whnf
    (repeat' (first | ((first | refine wl_add rfl rfl rfl rfl rfl rfl (by omega) (by omega) (run_l tabOk ?_) | refine gs_dt (by first | assumption | omega) ?_ | refine gs_df (by first | assumption | omega) ?_) <;> conv => whnf) | refine fin1 rfl rfl ?_))
    exact ⟨go, hl, rfl, ri_fZ hn hrow (fun v hv => by have := hcan.le v hv; have := nxt_leV hl v; omega), ⟨fun e => absurd e hm1, fun _ => hcan, fun _ e => absurd hm2 e⟩, bup hB1 (bup (bup hB6 hB7) (bup hB8 hB9))⟩
  · conv => whnf
    (repeat' (first | (refine wl_Lg tabOk hb1 rfl rfl rfl rfl rfl rfl rfl (run_l tabOk ?_); conv => whnf) | ((first | refine wl_add rfl rfl rfl rfl rfl rfl (by omega) (by omega) (run_l tabOk ?_) | refine gs_dt (by first | assumption | omega) ?_ | refine gs_df (by first | assumption | omega) ?_) <;> conv => whnf) | refine fin1 rfl rfl ?_))
    refine wl_mk (m := n) tabOk 3 1 8 rfl rfl rfl rfl rfl rfl rfl rfl rfl (by omega) (by omega) ?_
    intro gz w2 hn2
    have hz : w2.heap[gz]? = some (.cells (fZ n fun v => if v < 0 then (v : Int) else 0).toArray 3 (0, 0)) := by
      have e : (fun v : Nat => if v < 0 then (v : Int) else 0) = fun _ => 0 := by funext v; rw [if_neg (Nat.not_lt_zero v)]
      rw [e, ← fZ_zero]
      exact hn2.blk
    have hB2 := hn2.below
    have hg2 : w1.heap.size ≤ gz := Nat.le_of_eq hn2.at_.symm
    clear hn2
    refine run_l tabOk ?_
    conv => whnf
    (repeat' (first | ((first | refine wl_add rfl rfl rfl rfl rfl rfl (by omega) (by omega) (run_l tabOk ?_) | refine gs_dt (by first | assumption | omega) ?_ | refine gs_df (by first | assumption | omega) ?_) <;> conv => whnf) | refine fin1 rfl rfl ?_))
    refine lp_loop tabOk (X := Nat) (fun i => [(5, .slice (some ⟨gz, 0, none⟩) n n), (25, .int .i64 (n : Int)), (26, .int .i64 (i : Int))]) (fun i wi => i ≤ n ∧ Below w1.heap.size w1 wi ∧ wi.heap[gz]? = some (.cells (fZ n fun v => if v < i then (v : Int) else 0).toArray 3 (0, 0))) (fun i => n - i) 0 ⟨rfl, rfl, rfl, trivial⟩ ⟨by omega, hB2, hz⟩ ?_
    clear hz hB2
    rintro i G wi ⟨hi, hBi, hz⟩
    by_cases hil : i < n
    · conv => whnf
      (repeat' (first | (refine wl_Xn tabOk 3 1 rfl rfl rfl rfl rfl rfl rfl (by omega) (run_l tabOk ?_); conv => whnf) | ((first | refine wl_add rfl rfl rfl rfl rfl rfl (by omega) (by omega) (run_l tabOk ?_) | refine gs_dt (by first | assumption | omega) ?_ | refine gs_df (by first | assumption | omega) ?_) <;> conv => whnf) | refine fin1 rfl rfl ?_))
      refine wl_Se (j := i * 1) (v := .int .i64 (i : Int)) tabOk hz rfl rfl rfl rfl rfl rfl (by rw [fZ_len]; omega) rfl rfl ?_
      intro w3 hp3
      rw [Nat.mul_one, fZ_set] at hp3
      have ef : setF (fun v => if v < i then (v : Int) else 0) i (i : Int) = fun v => if v < i + 1 then (v : Int) else 0 := by
        funext v
        unfold setF
        by_cases e : v = i
        · subst e; simp
        · rw [if_neg e]
          show (if v < i then (v : Int) else 0) = _
          by_cases h1 : v < i
          · rw [if_pos h1, if_pos (by omega)]
          · rw [if_neg h1, if_neg (by omega)]
      rw [ef] at hp3
      refine run_l tabOk ?_
      conv => whnf
      (repeat' (first | ((first | refine wl_add rfl rfl rfl rfl rfl rfl (by omega) (by omega) (run_l tabOk ?_) | refine gs_dt (by first | assumption | omega) ?_ | refine gs_df (by first | assumption | omega) ?_) <;> conv => whnf) | refine fin1 rfl rfl ?_))
      exact ⟨i + 1, ⟨rfl, rfl, rfl, trivial⟩, ⟨by omega, hp3.below hBi hg2 hBi.size, hp3.blk⟩, by omega⟩
    · have hil2 : i = n := by omega
      rw [hil2] at hz
      conv => whnf
      (repeat' (first | ((first | refine wl_add rfl rfl rfl rfl rfl rfl (by omega) (by omega) (run_l tabOk ?_) | refine gs_dt (by first | assumption | omega) ?_ | refine gs_df (by first | assumption | omega) ?_) <;> conv => whnf) | refine fin1 rfl rfl ?_))
      refine ⟨gz, fun v => if v < n then (v : Int) else 0, rfl, ri_fZ hn hz (fun v hv => ?_), ⟨fun e => absurd e hm1, fun e => absurd e hm2, fun _ _ v hv => if_pos hv⟩, bup hB1 hBi⟩
      simp only [hv, if_true]
      omega
theorem fin_c3 {P : Program} {T : Nat → Option TI} {F : Fm} {w : World} (hT : TabOk P T) {fn : Func} {R : Ending → World → Prop} {p t t2 : Tmp} {ty t' : TypeId} {g : Nat} {cs : List Value} {fr : Nat × Nat} {v v2 : Value} (hr : fn.results = #[.cell p ty, .tmp t, .tmp t2]) (hb : w.heap[g]? = some (.cells cs.toArray t' fr)) (hv : F p = .pointer (some ⟨g, 0, none⟩)) (h1 : aggT T ty cs.length = true) (hu : F t = v) (hu2 : F t2 = v2) (h : R (.returned (.tuple #[.agg cs.toArray, v, v2])) w) : Fin P fn R F w := by
  unfold Fin retQ
  intro tmps ht
  refine ⟨.tuple #[.agg cs.toArray, v, v2], ?_, h⟩
  have h2 := aggT_run (P := P) (w := w) hT h1
  have h3 := run_loadCells (P := P) cs 0 #[] (cellsAt_blk hb cs 0 0 (by simp))
  have h4 := ht p
  have h6 := ht t
  have h8 := ht t2
  rw [hv] at h4
  rw [hu] at h6
  rw [hu2] at h8
  have h5 : tmps[p]?.getD undef = .pointer (some ⟨g, 0, none⟩) := by simpa using h4
  have h7 : tmps[t]?.getD undef = v := by simpa using h6
  have h9 : tmps[t2]?.getD undef = v2 := by simpa using h8
  unfold results
  simp [hr, h5, h7, h9, asAddr, loadVar, h2, loadCells, h3]
set_option maxHeartbeats 16000000 in
theorem shBy (n : Nat) (xs : List Cell) (ys : List Con) (A1 A2 : Option Addr) (c1 c2 : Nat) (mode : Int) (w : World) (hright : rightB ⟨n, xs, ys⟩ = true) (hmode : 0 ≤ mode ∧ mode ≤ 2) (hr1 : RCells w A1 xs) (hr2 : RCons w A2 ys) :
    Calls Try.prog 27 #[.agg #[.int .i64 n, .slice A1 xs.length c1, .slice A2 ys.length c2], .int .u8 mode] w fun e w' => ∃ gw wh lab H B D1 d1 D2 d2, e = .returned (.tuple #[.agg #[.int .i64 (nxt wh n : Int), .slice D1 xs.length d1, .slice D2 (shN wh (decide (¬ mode = 0)) ys).length d2], .slice (some ⟨gw, 0, none⟩) n n, .int .i64 0]) ∧
      APR B H w' n xs ys wh (decide (¬ mode = 0)) gw D1 d1 D2 d2 ∧ Canon n wh (fun v u => klF lab v = klF lab u) (fun v => lab v < 0) ∧ LabM n xs ys mode lab ∧ Below w.heap.size w w' := by
  refine enterR (args := [.agg #[.int .i64 n, .slice A1 xs.length c1, .slice A2 ys.length c2], .int .u8 mode]) tabOk Try.func27 rfl Try.ntmps27 rfl ?_; conv => whnf
  refine wl_box rfl rfl rfl rfl rfl rfl ?_
  intro g2 w1 hn1
  refine run_l tabOk ?_
  conv => whnf
  refine wl_alloc tabOk rfl rfl rfl rfl rfl rfl ?_
  intro g4 w2 hn2
  have hb2 := hn2.old hn1.blk
  have hb4 := hn2.blk
  have hB2 := bup hn1.below hn2.below
  have hg4 : w.heap.size ≤ g4 := by have := hn2.at_; have := hn1.size; omega
  clear hn1 hn2
  refine run_l tabOk ?_
  conv => whnf
  (repeat' (first | (refine wl_Lag tabOk hb2 rfl rfl rfl rfl rfl rfl (run_l tabOk ?_); conv => whnf) | ((first | refine wl_add rfl rfl rfl rfl rfl rfl (by omega) (by omega) (run_l tabOk ?_) | refine gs_dt (by first | assumption | omega) ?_ | refine gs_df (by first | assumption | omega) ?_) <;> conv => whnf) | refine fin1 rfl rfl ?_))
  refine wl_C fn33 (sysRight ⟨n, xs, ys⟩ A1 A2 c1 c2 w2 (hr1.up stays_Cell hB2) (hr2.up stays_Con hB2)) rfl rfl rfl rfl rfl rfl rfl ?_
  rintro _ w3 ⟨rfl, hB3⟩
  have hb2 := blk_up hB3 hb2
  have hb4 := blk_up hB3 hb4
  have hB3 := bup hB2 hB3
  have hr1 := hr1.up stays_Cell hB3
  have hr2 := hr2.up stays_Con hB3
  have hg43 : g4 < w3.heap.size := blk_lt hb4
  clear hB2
  refine ⟨_, rfl, run_l tabOk ?_⟩
  rw [hright]
  conv => whnf
  (repeat' (first | ((first | refine wl_add rfl rfl rfl rfl rfl rfl (by omega) (by omega) (run_l tabOk ?_) | refine gs_dt (by first | assumption | omega) ?_ | refine gs_df (by first | assumption | omega) ?_) <;> conv => whnf) | refine fin1 rfl rfl ?_))
  refine wc_cutR (X := Nat × Nat × (Nat → Int) × (Nat → Int) × Option Addr × Nat × Option Addr × Nat × Nat) (fun z => [(4, .pointer (some ⟨g4, 0, none⟩)), (7, .pointer (some ⟨z.1, 0, none⟩)), (8, .slice (some ⟨z.2.1, 0, none⟩) n n)])
    (fun z W => Below w3.heap.size w3 W ∧ W.heap[z.1]? = some (.cells #[.int .i64 (nxt z.2.2.1 n : Int), .slice z.2.2.2.2.1 xs.length z.2.2.2.2.2.1, .slice z.2.2.2.2.2.2.1 (shN z.2.2.1 (decide (¬ mode = 0)) ys).length z.2.2.2.2.2.2.2.1] 29 (0, 0)) ∧ (∃ B, w3.heap.size ≤ B ∧ APR B z.2.2.2.2.2.2.2.2 W n xs ys z.2.2.1 (decide (¬ mode = 0)) z.2.1 z.2.2.2.2.1 z.2.2.2.2.2.1 z.2.2.2.2.2.2.1 z.2.2.2.2.2.2.2.1) ∧ Canon n z.2.2.1 (fun v u => klF z.2.2.2.1 v = klF z.2.2.2.1 u) (fun v => z.2.2.2.1 v < 0) ∧ LabM n xs ys mode z.2.2.2.1) ?_ ?_
  · refine wc_qx [0, 1, 2, 4, 5] 7 12 (stable_Bw _) tabOk mixed (by kernel_rfl) (Below.refl _ _) ?_; (conv => whnf)
    (repeat' (first | (refine wq_Lag tabOk hb2 rfl rfl rfl rfl rfl rfl (run_q tabOk ?_); conv => whnf) | ((first | refine wq_add rfl rfl rfl rfl rfl rfl (by omega) (by omega) (run_q tabOk ?_) | refine gs_dt (by first | assumption | omega) ?_ | refine gs_df (by first | assumption | omega) ?_) <;> conv => whnf)))
    intro W hC hBW
    clear hBW
    conv => whnf
    repeat' (first
      | exact True.intro
      | (refine And.intro ?_ ?_ <;> conv => whnf)
      | (refine wb_C fn26 (shLabels n xs ys A1 A2 c1 c2 mode _ hright (hr1.up stays_Cell hC) (hr2.up stays_Con hC)) rfl rfl rfl rfl rfl rfl ?_; rintro _ Wa ⟨go, lab, rfl, fL, hLM, hBa⟩; refine ⟨_, rfl, bup hC hBa, fun W hW hC => ?_⟩; have fL := fL.up (stays_I _) hW; (try have f10 := blk_up (bup hBa hW) f10); clear hW hBa; conv => whnf)
      | (refine wb_C fn44 (shApply n xs ys A1 A2 (some ⟨go, 0, none⟩) c1 c2 n lab (decide (¬ mode = 0)) _ hright (hr1.up stays_Cell hC) (hr2.up stays_Con hC) fL) rfl rfl rfl rfl rfl rfl ?_; rintro _ Wa ⟨gw, wh, D1, d1, D2, d2, rfl, fA, hcan, hBa⟩; have hszB := hC.size; (try have h7 := Or.inl (b := Wa.heap.size ≤ g7) (blk_lt f10)); refine ⟨_, rfl, bup hC hBa, fun W hW hC => ?_⟩; have fA := fA.up hW; (try have f10 := blk_up (bup hBa hW) f10); have hszA := hW.size; clear hW hBa; conv => whnf)
      | (refine wb_a (wa_alloc tabOk rfl rfl rfl rfl rfl ?_); intro g7 Wa hna; have hg7 : w3.heap.size ≤ g7 := (by have := hna.at_; have := hC.size; omega); have h7n := hna.at_; refine ⟨bup hC hna.below, fun W hW hC => ?_⟩; (try have fL := fL.up (stays_I _) (bup hna.below hW)); (try have fA := fA.up (bup hna.below hW)); have f10 := blk_up hW hna.blk; clear hW hna; conv => whnf)
      | (refine wb_Sa tabOk f10 rfl rfl rfl rfl rfl (by simp [Value.oneCell']) rfl ?_; intro Wb hpb; have fA := fA.put hpb (by first | exact h7 | exact .inr (by omega)); refine ⟨hpb.below hC hg7 hC.size, fun W hW hC => ?_⟩; have fA := fA.up hW; have f10 := blk_up hW hpb.blk; clear hW hpb; conv => whnf)
      | (refine wb_P tabOk rfl rfl rfl ?_; refine ⟨hC, fun W hW hC => ?_⟩; (try have fL := fL.up (stays_I _) hW); (try have fA := fA.up hW); (try have f10 := blk_up hW f10); (try have hszA := Nat.le_trans hszA hW.size); clear hW; conv => whnf))
    all_goals exact ⟨(g7, gw, wh, lab, D1, d1, D2, d2, _), ⟨rfl, rfl, rfl, trivial⟩, hC, f10, ⟨_, hszB, fA⟩, hcan, hLM⟩
  · rintro ⟨g7, gw, wh, lab, D1, d1, D2, d2, H⟩ G W ⟨hC, f10, ⟨B, hBw, hA⟩, hcan, hLM⟩
    simp only at f10 hA hcan hLM
    have hb4 := blk_up hC hb4
    conv => whnf
    (repeat' (first | (refine wl_Lag tabOk f10 rfl rfl rfl rfl rfl rfl (run_l tabOk ?_); conv => whnf) | ((first | refine wl_add rfl rfl rfl rfl rfl rfl (by omega) (by omega) (run_l tabOk ?_) | refine gs_dt (by first | assumption | omega) ?_ | refine gs_df (by first | assumption | omega) ?_) <;> conv => whnf) | refine fin1 rfl rfl ?_))
    refine wl_Sa tabOk hb4 rfl rfl rfl rfl rfl (by simp [Value.oneCell']) rfl rfl ?_
    intro w5 hp5
    have hA := hA.put hp5 (.inl (by omega))
    refine run_l tabOk ?_
    conv => whnf
    (repeat' (first | ((first | refine wl_add rfl rfl rfl rfl rfl rfl (by omega) (by omega) (run_l tabOk ?_) | refine gs_dt (by first | assumption | omega) ?_ | refine gs_df (by first | assumption | omega) ?_) <;> conv => whnf) | refine fin1 rfl rfl ?_))
    refine fin_c3 tabOk rfl hp5.blk rfl rfl rfl rfl ?_
    exact ⟨gw, wh, lab, H, B, D1, d1, D2, d2, rfl, hA, hcan, hLM, hp5.below (bup hB3 hC) hg4 (bup hB3 hC).size⟩
end Go.Proofs.Ytjggjhgbobmkhaa

/- system.Equal, the reference's Same: when two systems are one. -/
namespace Go.Proofs.Ytjggjhgbobmkhaa
open Go.RowKit
set_option linter.unusedVariables false
set_option linter.unusedSimpArgs false
set_option maxRecDepth 100000
theorem same_cells_at {s t : Sys} {i : Nat} (hi : i < s.cells.length) (h : sameCell s.cells[i]! t.cells[i]! = false) : sameSys s t = false := by simp [sameSys, sameL_at hi h]
theorem same_cons_at {s t : Sys} {i : Nat} (hi : i < s.cons.length) (h : sameCon s.cons[i]! t.cons[i]! = false) : sameSys s t = false := by simp [sameSys, sameL_at hi h]
theorem same_vars {s t : Sys} (h : ¬ s.vars = t.vars) : sameSys s t = false := by simp [sameSys, h]
theorem same_lcells {s t : Sys} (h : ¬ s.cells.length = t.cells.length) : sameSys s t = false := by simp [sameSys, sameL_len (f := sameCell) h]
theorem same_lcons {s t : Sys} (h : ¬ s.cons.length = t.cons.length) : sameSys s t = false := by simp [sameSys, sameL_len (f := sameCon) h]
theorem same_all {s t : Sys} (h0 : s.vars = t.vars) (h1 : s.cells.length = t.cells.length) (h2 : s.cons.length = t.cons.length) (h3 : ∀ i, i < s.cells.length → sameCell s.cells[i]! t.cells[i]! = true) (h4 : ∀ i, i < s.cons.length → sameCon s.cons[i]! t.cons[i]! = true) : sameSys s t = true := by
  simp [sameSys, sameL_all h1 h3, sameL_all h2 h4, h0]
theorem refSame (s t : Sys) (A1 A2 B1 B2 : Option Addr) (c1 c2 d1 d2 : Nat) (w : World) (h1 : RCells w A1 s.cells) (h2 : RCons w A2 s.cons) (k1 : RCells w B1 t.cells) (k2 : RCons w B2 t.cons) :
    Calls Try.prog 30 #[.agg #[.int .i64 s.vars, .slice A1 s.cells.length c1, .slice A2 s.cons.length c2], .agg #[.int .i64 t.vars, .slice B1 t.cells.length d1, .slice B2 t.cons.length d2]] w fun e w' => e = .returned (.bool (sameSys s t)) ∧ Below w.heap.size w w' := by
  have m1 := h1.1
  have m2 := h2.1
  have m3 := k1.1
  have m4 := k2.1
  refine enterR (args := [.agg #[.int .i64 s.vars, .slice A1 s.cells.length c1, .slice A2 s.cons.length c2], .agg #[.int .i64 t.vars, .slice B1 t.cells.length d1, .slice B2 t.cons.length d2]]) tabOk Try.func30 rfl Try.ntmps30 rfl ?_; conv => whnf
  refine wl_box rfl rfl rfl rfl rfl rfl ?_
  intro g1 w1 hn1
  refine wl_box rfl rfl rfl rfl rfl rfl ?_
  intro g2 w2 hn2
  refine run_l tabOk ?_
  conv => whnf
  have hb1 := hn2.old hn1.blk
  have hb2 := hn2.blk
  have hB := hn2.up hn1.below
  (repeat' (first | (refine wl_Lg tabOk hb1 rfl rfl rfl rfl rfl rfl rfl (run_l tabOk ?_); conv => whnf) | (refine wl_Lg tabOk hb2 rfl rfl rfl rfl rfl rfl rfl (run_l tabOk ?_); conv => whnf) | ((first | refine wl_add rfl rfl rfl rfl rfl rfl (by omega) (by omega) (run_l tabOk ?_) | refine wl_sub rfl rfl rfl rfl rfl rfl (by omega) (by omega) (run_l tabOk ?_) | refine wl_cvA tabOk rfl rfl rfl (by simp only [inK]; omega) rfl rfl rfl (run_l tabOk ?_) | refine wl_cvB tabOk rfl rfl rfl rfl rfl rfl (run_l tabOk ?_) | refine wl_rem rfl rfl rfl rfl rfl rfl (by omega) (by omega) (fun r hr hr0 hr1 hr2 => run_l tabOk ?_) | refine wl_quo rfl rfl rfl rfl rfl rfl (by omega) (by omega) (by simp only [inK]; omega) (run_l tabOk ?_) | refine wl_mul rfl rfl rfl rfl rfl rfl (by omega) (by omega) (run_l tabOk ?_) | refine gs_dt (by first | assumption | omega) ?_ | refine gs_df (by first | assumption | omega) ?_ | refine gs_t (by assumption) ?_ | refine gs_f (by assumption) ?_ | refine gs_d (fun hg => ?_) (fun hg => ?_) | refine gs_n (fun hg => ?_) (fun hg => ?_) | refine gs_nb (fun hg => ?_) (fun hg => ?_) | refine gs_b (fun hg => ?_) (fun hg => ?_)) <;> conv => whnf) | refine fin1 rfl rfl ?_))
  all_goals try exact ⟨retB (by first | exact (same_vars (by assumption)).symm | exact (same_lcells (by omega)).symm | exact (same_lcons (by omega)).symm), hB⟩
  refine lp_loop tabOk (X := Nat) (fun i => [(2, .pointer (some ⟨g1, 0, none⟩)), (3, .pointer (some ⟨g2, 0, none⟩)), (5, .int .i64 i)])
    (fun i wr => i ≤ s.cells.length ∧ (∀ j, j < i → sameCell s.cells[j]! t.cells[j]! = true) ∧ Below w2.heap.size w2 wr) (fun i => s.cells.length - i) 0 ⟨rfl, rfl, rfl, trivial⟩ ⟨by omega, by omega, Below.refl _ _⟩ ?_
  intro i G wr ⟨hi, hok, hBr⟩
  conv => whnf
  have hb1r := blk_up hBr hb1
  have hb2r := blk_up hBr hb2
  have hBw := bup hB hBr
  by_cases hlt : i < s.cells.length
  · obtain ⟨x, ad, C1, q1, hx, rfl, e0, _, e2, _⟩ := cellsE (h1.up stays_Cell hBw) i hlt
    obtain ⟨y, ad2, C2, q2, hy, rfl, f0, _, f2, _⟩ := cellsE (k1.up stays_Cell hBw) i (by omega)
    (repeat' (first | (refine wl_Lg tabOk hb1r rfl rfl rfl rfl rfl rfl rfl (run_l tabOk ?_); conv => whnf) | (refine wl_Xn tabOk 44 3 rfl rfl rfl rfl rfl rfl rfl (by omega) (run_l tabOk ?_); conv => whnf) | (refine wl_La tabOk e0 rfl rfl rfl rfl rfl rfl (run_l tabOk ?_); conv => whnf) | ((first | refine wl_add rfl rfl rfl rfl rfl rfl (by omega) (by omega) (run_l tabOk ?_) | refine wl_sub rfl rfl rfl rfl rfl rfl (by omega) (by omega) (run_l tabOk ?_) | refine wl_cvA tabOk rfl rfl rfl (by simp only [inK]; omega) rfl rfl rfl (run_l tabOk ?_) | refine wl_cvB tabOk rfl rfl rfl rfl rfl rfl (run_l tabOk ?_) | refine wl_rem rfl rfl rfl rfl rfl rfl (by omega) (by omega) (fun r hr hr0 hr1 hr2 => run_l tabOk ?_) | refine wl_quo rfl rfl rfl rfl rfl rfl (by omega) (by omega) (by simp only [inK]; omega) (run_l tabOk ?_) | refine wl_mul rfl rfl rfl rfl rfl rfl (by omega) (by omega) (run_l tabOk ?_) | refine gs_dt (by first | assumption | omega) ?_ | refine gs_df (by first | assumption | omega) ?_ | refine gs_t (by assumption) ?_ | refine gs_f (by assumption) ?_ | refine gs_d (fun hg => ?_) (fun hg => ?_) | refine gs_n (fun hg => ?_) (fun hg => ?_) | refine gs_nb (fun hg => ?_) (fun hg => ?_) | refine gs_b (fun hg => ?_) (fun hg => ?_)) <;> conv => whnf) | refine fin1 rfl rfl ?_))
    refine wl_alloc tabOk rfl rfl rfl rfl rfl rfl ?_
    intro g3 w3 hn3
    refine wl_Sa tabOk hn3.blk rfl rfl rfl rfl rfl (by simp [Value.oneCell']) rfl rfl ?_
    intro w4 hp4
    have hB4 : Below wr.heap.size wr w4 := hp4.below hn3.below (by have := hn3.at_; omega) (by have := hn3.size; omega)
    have hb3 := hp4.blk
    refine run_l tabOk ?_
    conv => whnf
    have hb2' := blk_up hB4 hb2r
    (repeat' (first | (refine wl_Lg tabOk hb2' rfl rfl rfl rfl rfl rfl rfl (run_l tabOk ?_); conv => whnf) | (refine wl_Xn tabOk 44 3 rfl rfl rfl rfl rfl rfl rfl (by omega) (run_l tabOk ?_); conv => whnf) | (refine wl_La tabOk (cellsAt_up hB4 f0) rfl rfl rfl rfl rfl rfl (run_l tabOk ?_); conv => whnf) | ((first | refine wl_add rfl rfl rfl rfl rfl rfl (by omega) (by omega) (run_l tabOk ?_) | refine wl_sub rfl rfl rfl rfl rfl rfl (by omega) (by omega) (run_l tabOk ?_) | refine wl_cvA tabOk rfl rfl rfl (by simp only [inK]; omega) rfl rfl rfl (run_l tabOk ?_) | refine wl_cvB tabOk rfl rfl rfl rfl rfl rfl (run_l tabOk ?_) | refine wl_rem rfl rfl rfl rfl rfl rfl (by omega) (by omega) (fun r hr hr0 hr1 hr2 => run_l tabOk ?_) | refine wl_quo rfl rfl rfl rfl rfl rfl (by omega) (by omega) (by simp only [inK]; omega) (run_l tabOk ?_) | refine wl_mul rfl rfl rfl rfl rfl rfl (by omega) (by omega) (run_l tabOk ?_) | refine gs_dt (by first | assumption | omega) ?_ | refine gs_df (by first | assumption | omega) ?_ | refine gs_t (by assumption) ?_ | refine gs_f (by assumption) ?_ | refine gs_d (fun hg => ?_) (fun hg => ?_) | refine gs_n (fun hg => ?_) (fun hg => ?_) | refine gs_nb (fun hg => ?_) (fun hg => ?_) | refine gs_b (fun hg => ?_) (fun hg => ?_)) <;> conv => whnf) | refine fin1 rfl rfl ?_))
    refine wl_alloc tabOk rfl rfl rfl rfl rfl rfl ?_
    intro g4 w5 hn5
    refine wl_Sa tabOk hn5.blk rfl rfl rfl rfl rfl (by simp [Value.oneCell']) rfl rfl ?_
    intro w6 hp6
    have hB6 : Below w4.heap.size w4 w6 := hp6.below hn5.below (by have := hn5.at_; omega) (by have := hn5.size; omega)
    have hb4 := hp6.blk
    have hb3 := blk_up hB6 hb3
    have hB46 := bup hB4 hB6
    refine run_l tabOk ?_
    conv => whnf
    (repeat' (first | (refine wl_Lg tabOk hb3 rfl rfl rfl rfl rfl rfl rfl (run_l tabOk ?_); conv => whnf) | (refine wl_Lg tabOk hb4 rfl rfl rfl rfl rfl rfl rfl (run_l tabOk ?_); conv => whnf) | ((refine wl_C fn29 (refSameInts x.args y.args C1 C2 q1 q2 _ (e2.out.up (stays_I _) hB46) (f2.out.up (stays_I _) hB46)) rfl rfl rfl rfl rfl rfl rfl ?_); rintro _ _ ⟨rfl, hB7⟩; refine ⟨_, rfl, run_l tabOk ?_⟩; conv => whnf) | ((first | refine wl_add rfl rfl rfl rfl rfl rfl (by omega) (by omega) (run_l tabOk ?_) | refine wl_sub rfl rfl rfl rfl rfl rfl (by omega) (by omega) (run_l tabOk ?_) | refine wl_cvA tabOk rfl rfl rfl (by simp only [inK]; omega) rfl rfl rfl (run_l tabOk ?_) | refine wl_cvB tabOk rfl rfl rfl rfl rfl rfl (run_l tabOk ?_) | refine wl_rem rfl rfl rfl rfl rfl rfl (by omega) (by omega) (fun r hr hr0 hr1 hr2 => run_l tabOk ?_) | refine wl_quo rfl rfl rfl rfl rfl rfl (by omega) (by omega) (by simp only [inK]; omega) (run_l tabOk ?_) | refine wl_mul rfl rfl rfl rfl rfl rfl (by omega) (by omega) (run_l tabOk ?_) | refine gs_dt (by first | assumption | omega) ?_ | refine gs_df (by first | assumption | omega) ?_ | refine gs_t (by assumption) ?_ | refine gs_f (by assumption) ?_ | refine gs_d (fun hg => ?_) (fun hg => ?_) | refine gs_n (fun hg => ?_) (fun hg => ?_) | refine gs_nb (fun hg => ?_) (fun hg => ?_) | refine gs_b (fun hg => ?_) (fun hg => ?_)) <;> conv => whnf) | refine fin1 rfl rfl ?_))
    all_goals first
      | exact ⟨i + 1, ⟨rfl, rfl, rfl, trivial⟩, ⟨by omega, all_succ hok (by rw [hx.out, hy.out]; simp_all [sameCell]), bup hBr (bup hB46 hB7)⟩, by omega⟩
      | exact ⟨retB (same_cells_at hlt (by rw [hx.out, hy.out]; simp_all [sameCell])).symm, bup hBw (bup hB46 hB7)⟩
      | exact ⟨retB (same_cells_at hlt (by rw [hx.out, hy.out]; simp_all [sameCell])).symm, bup hBw hB46⟩
  · have hokA := all_ge hok hlt
    (repeat' (first | (refine wl_Lg tabOk hb1r rfl rfl rfl rfl rfl rfl rfl (run_l tabOk ?_); conv => whnf) | ((first | refine wl_add rfl rfl rfl rfl rfl rfl (by omega) (by omega) (run_l tabOk ?_) | refine wl_sub rfl rfl rfl rfl rfl rfl (by omega) (by omega) (run_l tabOk ?_) | refine wl_cvA tabOk rfl rfl rfl (by simp only [inK]; omega) rfl rfl rfl (run_l tabOk ?_) | refine wl_cvB tabOk rfl rfl rfl rfl rfl rfl (run_l tabOk ?_) | refine wl_rem rfl rfl rfl rfl rfl rfl (by omega) (by omega) (fun r hr hr0 hr1 hr2 => run_l tabOk ?_) | refine wl_quo rfl rfl rfl rfl rfl rfl (by omega) (by omega) (by simp only [inK]; omega) (run_l tabOk ?_) | refine wl_mul rfl rfl rfl rfl rfl rfl (by omega) (by omega) (run_l tabOk ?_) | refine gs_dt (by first | assumption | omega) ?_ | refine gs_df (by first | assumption | omega) ?_ | refine gs_t (by assumption) ?_ | refine gs_f (by assumption) ?_ | refine gs_d (fun hg => ?_) (fun hg => ?_) | refine gs_n (fun hg => ?_) (fun hg => ?_) | refine gs_nb (fun hg => ?_) (fun hg => ?_) | refine gs_b (fun hg => ?_) (fun hg => ?_)) <;> conv => whnf) | refine fin1 rfl rfl ?_))
    refine lp_loop tabOk (X := Nat) (fun i => [(2, .pointer (some ⟨g1, 0, none⟩)), (3, .pointer (some ⟨g2, 0, none⟩)), (8, .int .i64 i)])
      (fun i wj => i ≤ s.cons.length ∧ (∀ j, j < i → sameCon s.cons[j]! t.cons[j]! = true) ∧ Below w2.heap.size w2 wj) (fun i => s.cons.length - i) 0 ⟨rfl, rfl, rfl, trivial⟩ ⟨by omega, by omega, hBr⟩ ?_
    clear hBw hb1r hb2r
    intro i G wj ⟨hi, hokc, hBr⟩
    conv => whnf
    have hb1r := blk_up hBr hb1
    have hb2r := blk_up hBr hb2
    have hBw := bup hB hBr
    by_cases hlt : i < s.cons.length
    · obtain ⟨x, ad, C1, q1, hx, rfl, e0, _, e2, _⟩ := consE (h2.up stays_Con hBw) i hlt
      obtain ⟨y, ad2, C2, q2, hy, rfl, f0, _, f2, _⟩ := consE (k2.up stays_Con hBw) i (by omega)
      (repeat' (first | (refine wl_Lg tabOk hb1r rfl rfl rfl rfl rfl rfl rfl (run_l tabOk ?_); conv => whnf) | (refine wl_Xn tabOk 46 4 rfl rfl rfl rfl rfl rfl rfl (by omega) (run_l tabOk ?_); conv => whnf) | (refine wl_La tabOk e0 rfl rfl rfl rfl rfl rfl (run_l tabOk ?_); conv => whnf) | ((first | refine wl_add rfl rfl rfl rfl rfl rfl (by omega) (by omega) (run_l tabOk ?_) | refine wl_sub rfl rfl rfl rfl rfl rfl (by omega) (by omega) (run_l tabOk ?_) | refine wl_cvA tabOk rfl rfl rfl (by simp only [inK]; omega) rfl rfl rfl (run_l tabOk ?_) | refine wl_cvB tabOk rfl rfl rfl rfl rfl rfl (run_l tabOk ?_) | refine wl_rem rfl rfl rfl rfl rfl rfl (by omega) (by omega) (fun r hr hr0 hr1 hr2 => run_l tabOk ?_) | refine wl_quo rfl rfl rfl rfl rfl rfl (by omega) (by omega) (by simp only [inK]; omega) (run_l tabOk ?_) | refine wl_mul rfl rfl rfl rfl rfl rfl (by omega) (by omega) (run_l tabOk ?_) | refine gs_dt (by first | assumption | omega) ?_ | refine gs_df (by first | assumption | omega) ?_ | refine gs_t (by assumption) ?_ | refine gs_f (by assumption) ?_ | refine gs_d (fun hg => ?_) (fun hg => ?_) | refine gs_n (fun hg => ?_) (fun hg => ?_) | refine gs_nb (fun hg => ?_) (fun hg => ?_) | refine gs_b (fun hg => ?_) (fun hg => ?_)) <;> conv => whnf) | refine fin1 rfl rfl ?_))
      refine wl_alloc tabOk rfl rfl rfl rfl rfl rfl ?_
      intro g3 w3 hn3
      refine wl_Sa tabOk hn3.blk rfl rfl rfl rfl rfl (by simp [Value.oneCell']) rfl rfl ?_
      intro w4 hp4
      have hB4 : Below wj.heap.size wj w4 := hp4.below hn3.below (by have := hn3.at_; omega) (by have := hn3.size; omega)
      have hb3 := hp4.blk
      refine run_l tabOk ?_
      conv => whnf
      have hb2' := blk_up hB4 hb2r
      (repeat' (first | (refine wl_Lg tabOk hb2' rfl rfl rfl rfl rfl rfl rfl (run_l tabOk ?_); conv => whnf) | (refine wl_Xn tabOk 46 4 rfl rfl rfl rfl rfl rfl rfl (by omega) (run_l tabOk ?_); conv => whnf) | (refine wl_La tabOk (cellsAt_up hB4 f0) rfl rfl rfl rfl rfl rfl (run_l tabOk ?_); conv => whnf) | ((first | refine wl_add rfl rfl rfl rfl rfl rfl (by omega) (by omega) (run_l tabOk ?_) | refine wl_sub rfl rfl rfl rfl rfl rfl (by omega) (by omega) (run_l tabOk ?_) | refine wl_cvA tabOk rfl rfl rfl (by simp only [inK]; omega) rfl rfl rfl (run_l tabOk ?_) | refine wl_cvB tabOk rfl rfl rfl rfl rfl rfl (run_l tabOk ?_) | refine wl_rem rfl rfl rfl rfl rfl rfl (by omega) (by omega) (fun r hr hr0 hr1 hr2 => run_l tabOk ?_) | refine wl_quo rfl rfl rfl rfl rfl rfl (by omega) (by omega) (by simp only [inK]; omega) (run_l tabOk ?_) | refine wl_mul rfl rfl rfl rfl rfl rfl (by omega) (by omega) (run_l tabOk ?_) | refine gs_dt (by first | assumption | omega) ?_ | refine gs_df (by first | assumption | omega) ?_ | refine gs_t (by assumption) ?_ | refine gs_f (by assumption) ?_ | refine gs_d (fun hg => ?_) (fun hg => ?_) | refine gs_n (fun hg => ?_) (fun hg => ?_) | refine gs_nb (fun hg => ?_) (fun hg => ?_) | refine gs_b (fun hg => ?_) (fun hg => ?_)) <;> conv => whnf) | refine fin1 rfl rfl ?_))
      refine wl_alloc tabOk rfl rfl rfl rfl rfl rfl ?_
      intro g4 w5 hn5
      refine wl_Sa tabOk hn5.blk rfl rfl rfl rfl rfl (by simp [Value.oneCell']) rfl rfl ?_
      intro w6 hp6
      have hB6 : Below w4.heap.size w4 w6 := hp6.below hn5.below (by have := hn5.at_; omega) (by have := hn5.size; omega)
      have hb4 := hp6.blk
      have hb3 := blk_up hB6 hb3
      have hB46 := bup hB4 hB6
      refine run_l tabOk ?_
      conv => whnf
      (repeat' (first | (refine wl_Lg tabOk hb3 rfl rfl rfl rfl rfl rfl rfl (run_l tabOk ?_); conv => whnf) | (refine wl_Lg tabOk hb4 rfl rfl rfl rfl rfl rfl rfl (run_l tabOk ?_); conv => whnf) | ((refine wl_C fn29 (refSameInts x.args y.args C1 C2 q1 q2 _ (e2.out.up (stays_I _) hB46) (f2.out.up (stays_I _) hB46)) rfl rfl rfl rfl rfl rfl rfl ?_); rintro _ _ ⟨rfl, hB7⟩; refine ⟨_, rfl, run_l tabOk ?_⟩; conv => whnf) | ((first | refine wl_add rfl rfl rfl rfl rfl rfl (by omega) (by omega) (run_l tabOk ?_) | refine wl_sub rfl rfl rfl rfl rfl rfl (by omega) (by omega) (run_l tabOk ?_) | refine wl_cvA tabOk rfl rfl rfl (by simp only [inK]; omega) rfl rfl rfl (run_l tabOk ?_) | refine wl_cvB tabOk rfl rfl rfl rfl rfl rfl (run_l tabOk ?_) | refine wl_rem rfl rfl rfl rfl rfl rfl (by omega) (by omega) (fun r hr hr0 hr1 hr2 => run_l tabOk ?_) | refine wl_quo rfl rfl rfl rfl rfl rfl (by omega) (by omega) (by simp only [inK]; omega) (run_l tabOk ?_) | refine wl_mul rfl rfl rfl rfl rfl rfl (by omega) (by omega) (run_l tabOk ?_) | refine gs_dt (by first | assumption | omega) ?_ | refine gs_df (by first | assumption | omega) ?_ | refine gs_t (by assumption) ?_ | refine gs_f (by assumption) ?_ | refine gs_d (fun hg => ?_) (fun hg => ?_) | refine gs_n (fun hg => ?_) (fun hg => ?_) | refine gs_nb (fun hg => ?_) (fun hg => ?_) | refine gs_b (fun hg => ?_) (fun hg => ?_)) <;> conv => whnf) | refine fin1 rfl rfl ?_))
      all_goals first
        | exact ⟨i + 1, ⟨rfl, rfl, rfl, trivial⟩, ⟨by omega, all_succ hokc (by rw [hx.out, hy.out]; simp_all [sameCon]), bup hBr (bup hB46 hB7)⟩, by omega⟩
        | exact ⟨retB (same_cons_at hlt (by rw [hx.out, hy.out]; simp_all [sameCon])).symm, bup hBw (bup hB46 hB7)⟩
        | exact ⟨retB (same_cons_at hlt (by rw [hx.out, hy.out]; simp_all [sameCon])).symm, bup hBw hB46⟩
    · (repeat' (first | (refine wl_Lg tabOk hb1r rfl rfl rfl rfl rfl rfl rfl (run_l tabOk ?_); conv => whnf) | ((first | refine wl_add rfl rfl rfl rfl rfl rfl (by omega) (by omega) (run_l tabOk ?_) | refine wl_sub rfl rfl rfl rfl rfl rfl (by omega) (by omega) (run_l tabOk ?_) | refine wl_cvA tabOk rfl rfl rfl (by simp only [inK]; omega) rfl rfl rfl (run_l tabOk ?_) | refine wl_cvB tabOk rfl rfl rfl rfl rfl rfl (run_l tabOk ?_) | refine wl_rem rfl rfl rfl rfl rfl rfl (by omega) (by omega) (fun r hr hr0 hr1 hr2 => run_l tabOk ?_) | refine wl_quo rfl rfl rfl rfl rfl rfl (by omega) (by omega) (by simp only [inK]; omega) (run_l tabOk ?_) | refine wl_mul rfl rfl rfl rfl rfl rfl (by omega) (by omega) (run_l tabOk ?_) | refine gs_dt (by first | assumption | omega) ?_ | refine gs_df (by first | assumption | omega) ?_ | refine gs_t (by assumption) ?_ | refine gs_f (by assumption) ?_ | refine gs_d (fun hg => ?_) (fun hg => ?_) | refine gs_n (fun hg => ?_) (fun hg => ?_) | refine gs_nb (fun hg => ?_) (fun hg => ?_) | refine gs_b (fun hg => ?_) (fun hg => ?_)) <;> conv => whnf) | refine fin1 rfl rfl ?_))
      exact ⟨retB (same_all (by omega) (by omega) (by omega) hokA (all_ge hokc hlt)).symm, hBw⟩
end Go.Proofs.Ytjggjhgbobmkhaa

/- The example of the document's chapter on smaller systems. -/
namespace Go.Proofs.Ytjggjhgbobmkhaa
open Go.RowKit
set_option linter.unusedVariables false
set_option linter.unusedSimpArgs false
set_option maxRecDepth 100000
abbrev aXs : List Cell := [⟨false, 2, []⟩]
abbrev aYs : List Con := [⟨1, 0, 0, []⟩, ⟨2, 1, 0, []⟩]
theorem a_right : rightB ⟨(3 : Nat), aXs, aYs⟩ = true := by decide
theorem a_cp {v u : Nat} (h : CpE ⟨(3 : Nat), aXs, aYs⟩ v u) : v = 1 ∧ u = 0 := by
  obtain ⟨c, hc, h2, h3, h4⟩ := h
  simp only [List.mem_cons, List.not_mem_nil, or_false] at hc
  rcases hc with rfl | rfl
  · exact absurd h2 (by decide)
  · simp only at h3 h4
    omega
theorem a_seed {v j : Nat} (h : Seed 3 1 ⟨(3 : Nat), aXs, aYs⟩ v j) : (v = 0 ∧ j = 0) ∨ (v = 2 ∧ j = 3) := by
  rcases h with ⟨c, hc, h3, h4⟩ | ⟨h3, h4⟩
  · simp only [List.mem_cons, List.not_mem_nil, or_false] at hc
    rcases hc with rfl | rfl
    · rcases h4 with ⟨_, h4⟩ | ⟨h4, _⟩
      · simp only at h3 h4
        omega
      · exact absurd h4 (by decide)
    · rcases h4 with ⟨h4, _⟩ | ⟨h4, _⟩ <;> exact absurd h4 (by decide)
  · right
    simp only [looseAt, aXs, aYs, List.any_cons, List.any_nil, cellLoose, conLoose, Bool.or_false, Bool.or_eq_true, Bool.and_eq_true, decide_eq_true_eq] at h4
    omega
theorem a_src0 (j : Nat) : Src 3 1 ⟨(3 : Nat), aXs, aYs⟩ 0 j ↔ j = 0 := by
  constructor
  · rintro ⟨u, h1, h2⟩
    cases h1 with
    | refl => have := a_seed h2; omega
    | step e _ => have := a_cp e; omega
  · rintro rfl
    exact .seed (.inl ⟨⟨1, 0, 0, []⟩, by simp, rfl, .inl ⟨rfl, rfl⟩⟩)
theorem a_src1 (j : Nat) : Src 3 1 ⟨(3 : Nat), aXs, aYs⟩ 1 j ↔ j = 0 := by
  constructor
  · rintro ⟨u, h1, h2⟩
    cases h1 with
    | refl => have := a_seed h2; omega
    | @step _ w _ e r =>
      have h3 := a_cp e
      have h4 : w = 0 := h3.2
      subst h4
      exact (a_src0 j).1 ⟨u, r, h2⟩
  · intro h
    exact .copy ⟨⟨2, 1, 0, []⟩, by simp, rfl, rfl, rfl⟩ ((a_src0 j).2 h)
theorem a_src2 (j : Nat) : Src 3 1 ⟨(3 : Nat), aXs, aYs⟩ 2 j ↔ j = 3 := by
  constructor
  · rintro ⟨u, h1, h2⟩
    cases h1 with
    | refl => have := a_seed h2; omega
    | step e _ => have := a_cp e; omega
  · rintro rfl
    exact .seed (.inr ⟨rfl, by decide⟩)
theorem lt3 {v : Nat} (h : v < 3) : v = 0 ∨ v = 1 ∨ v = 2 := by omega
def aW : Nat → Int := fun v => if v = 2 then 1 else 0
theorem a_plain {wh lab : Nat → Int} (h : Canon 3 wh (fun v u => klF lab v = klF lab u) (fun v => lab v < 0)) (hl : ∀ v, v < 3 → lab v = (v : Int)) : wh 0 = 0 ∧ wh 1 = 1 ∧ wh 2 = 2 := by
  have hc : Canon 3 (fun v => (v : Int)) (fun v u => klF lab v = klF lab u) (fun v => lab v < 0) := by
    refine ⟨fun v hv => ?_, fun v u hv hu => ?_, fun v hv => ?_⟩
    · have := hl v hv
      constructor <;> intro h <;> omega
    · have h1 := hl v hv
      have h2 := hl u hu
      unfold klF
      rw [if_neg (by omega), if_neg (by omega), h1, h2]
    · have e : ∀ v, nxt (fun v : Nat => (v : Int)) v = v := fun v => by
        induction v with
        | zero => rfl
        | succ v ih => unfold nxt; rw [ih, if_pos rfl]
      rw [e]
      omega
  have hu := h.unique hc
  exact ⟨hu 0 (by omega), hu 1 (by omega), hu 2 (by omega)⟩
theorem a_hu {wh lab : Nat → Int} (h : Canon 3 wh (fun v u => klF lab v = klF lab u) (fun v => lab v < 0)) (hl : Canon 3 lab (SrcE 3 1 ⟨(3 : Nat), aXs, aYs⟩) (SrcZ 3 1 ⟨(3 : Nat), aXs, aYs⟩)) : wh 0 = 0 ∧ wh 1 = 0 ∧ wh 2 = 1 := by
  have n0 : lab 0 ≠ -1 := fun e => (hl.none 0 (by omega)).1 e 0 ((a_src0 0).2 rfl)
  have n1 : lab 1 ≠ -1 := fun e => (hl.none 1 (by omega)).1 e 0 ((a_src1 0).2 rfl)
  have n2 : lab 2 ≠ -1 := fun e => (hl.none 2 (by omega)).1 e 3 ((a_src2 3).2 rfl)
  have e01 : lab 0 = lab 1 := (hl.same 0 1 (by omega) (by omega)).2 fun j => (a_src0 j).trans (a_src1 j).symm
  have e02 : lab 0 ≠ lab 2 := fun e => by
    have := (hl.same 0 2 (by omega) (by omega)).1 e 0
    rw [a_src0, a_src2] at this
    omega
  have g0 := (hl.le 0 (by omega)).1
  have g2 := (hl.le 2 (by omega)).1
  have hc : Canon 3 aW (fun v u => klF lab v = klF lab u) (fun v => lab v < 0) := by
    have k0 : klF lab 0 = lab 0 := if_neg (by omega)
    have k1 : klF lab 1 = lab 1 := if_neg (by omega)
    have k2 : klF lab 2 = lab 2 := if_neg (by omega)
    refine ⟨fun v hv => ?_, fun v u hv hu => ?_, fun v hv => ?_⟩
    · rcases lt3 hv with rfl | rfl | rfl <;> (unfold aW; constructor <;> intro h <;> first | omega | (simp at h))
    · rcases lt3 hv with rfl | rfl | rfl <;> rcases lt3 hu with rfl | rfl | rfl <;> simp only [k0, k1, k2, aW] <;> (constructor <;> intro h <;> simp at h ⊢ <;> omega)
    · rcases lt3 hv with rfl | rfl | rfl <;> decide
  have hu := h.unique hc
  exact ⟨hu 0 (by omega), hu 1 (by omega), hu 2 (by omega)⟩
theorem a_shP {wh : Nat → Int} (h : wh 0 = 0 ∧ wh 1 = 1 ∧ wh 2 = 2) : nxt wh 3 = 3 ∧ aXs.map (shC wh) = aXs ∧ shN wh false aYs = aYs := by
  obtain ⟨h0, h1, h2⟩ := h
  refine ⟨?_, ?_, ?_⟩
  · simp [nxt, h0, h1, h2]
  · simp [aXs, shC, atF, h2]
  · simp [aYs, shN, shStep, shX, atF, h0, h1]
theorem a_shH {wh : Nat → Int} (h : wh 0 = 0 ∧ wh 1 = 0 ∧ wh 2 = 1) : nxt wh 3 = 2 ∧ (shN wh true aYs).length = 1 := by
  obtain ⟨h0, h1, h2⟩ := h
  refine ⟨?_, ?_⟩
  · simp [nxt, h0, h1, h2]
  · simp [aYs, shN, shStep, shX, atF, emptyC, inC, eqC, h0, h1]
theorem aByP (A1 A2 : Option Addr) (c1 c2 : Nat) (w : World) (hr1 : RCells w A1 aXs) (hr2 : RCons w A2 aYs) :
    Calls Try.prog 27 #[.agg #[.int .i64 3, .slice A1 1 c1, .slice A2 2 c2], .int .u8 0] w fun e w' => ∃ gw D1 d1 D2 d2, e = .returned (.tuple #[.agg #[.int .i64 3, .slice D1 1 d1, .slice D2 2 d2], .slice (some ⟨gw, 0, none⟩) 3 3, .int .i64 0]) ∧ w'.cell? ((⟨gw, 0, none⟩ : Addr).add (2 * 1)) = some (.int .i64 2) ∧ RCells w' D1 aXs ∧ RCons w' D2 aYs ∧ Below w.heap.size w w' := by
  refine (shBy 3 aXs aYs A1 A2 c1 c2 0 w a_right (by decide) hr1 hr2).mono ?_
  rintro e w' ⟨gw, wh, lab, H, B, D1, d1, D2, d2, he, hA, hcan, hLM, hB⟩
  have hw := a_plain hcan (hLM.plain (by decide) (by decide))
  obtain ⟨s1, s2, s3⟩ := a_shP hw
  have hless : decide (¬ (0 : Int) = 0) = false := by decide
  rw [hless] at he hA
  obtain ⟨r1, r2⟩ := hA.rows
  rw [s2] at r1
  rw [s3] at r2
  rw [s1, s3] at he
  refine ⟨gw, D1, d1, D2, d2, he, ?_, r1, r2, hB⟩
  rw [Nat.mul_one, add_zero, ← hw.2.2]
  exact cell_blk hA.wr (by simpa using fZ_get (show 2 < 3 by omega))
theorem aByH (A1 A2 : Option Addr) (c1 c2 : Nat) (w : World) (hr1 : RCells w A1 aXs) (hr2 : RCons w A2 aYs) :
    Calls Try.prog 27 #[.agg #[.int .i64 3, .slice A1 1 c1, .slice A2 2 c2], .int .u8 2] w fun e w' => ∃ gw D1 d1 D2 d2, e = .returned (.tuple #[.agg #[.int .i64 2, .slice D1 1 d1, .slice D2 1 d2], .slice (some ⟨gw, 0, none⟩) 3 3, .int .i64 0]) ∧ w'.cell? ((⟨gw, 0, none⟩ : Addr).add (0 * 1)) = some (.int .i64 0) ∧ w'.cell? ((⟨gw, 0, none⟩ : Addr).add (1 * 1)) = some (.int .i64 0) ∧ Below w.heap.size w w' := by
  refine (shBy 3 aXs aYs A1 A2 c1 c2 2 w a_right (by decide) hr1 hr2).mono ?_
  rintro e w' ⟨gw, wh, lab, H, B, D1, d1, D2, d2, he, hA, hcan, hLM, hB⟩
  have hw := a_hu hcan (hLM.hu rfl)
  obtain ⟨s1, s2⟩ := a_shH hw
  have hless : decide (¬ (2 : Int) = 0) = true := by decide
  rw [hless] at he hA
  rw [s1, s2] at he
  refine ⟨gw, D1, d1, D2, d2, he, ?_, ?_, hB⟩
  · rw [Nat.mul_one, add_zero, ← hw.1]
    exact cell_blk hA.wr (by simpa using fZ_get (show 0 < 3 by omega))
  · rw [Nat.mul_one, add_zero, ← hw.2.1]
    exact cell_blk hA.wr (by simpa using fZ_get (show 1 < 3 by omega))
set_option maxHeartbeats 8000000 in
theorem awake19 (w : World) : Calls Try.prog 25 #[] w fun e w' => e = .returned (.bool true) ∧ Below w.heap.size w w' := by
  refine enterR (args := []) tabOk Try.func25 rfl Try.ntmps25 rfl ?_; conv => whnf
  refine wl_bs tabOk 44 3 rfl rfl rfl rfl rfl rfl rfl rfl rfl rfl ?_
  intro g1 w1 hn1
  refine run_l tabOk ?_
  conv => whnf
  refine wl_bs tabOk 46 4 rfl rfl rfl rfl rfl rfl rfl rfl rfl rfl ?_
  intro g2 w2 hn2
  refine run_l tabOk ?_
  conv => whnf
  refine wl_alloc tabOk rfl rfl rfl rfl rfl rfl ?_
  intro g3 w3 hn3
  refine run_l tabOk ?_
  conv => whnf
  refine wl_Sa tabOk hn3.blk rfl rfl rfl rfl rfl (by simp [Value.oneCell']) rfl rfl ?_
  intro w4 hp4
  refine run_l tabOk ?_
  conv => whnf
  have q1 := hn1.at_
  have q2 := hn2.at_
  have q3 := hn3.at_
  have q1s := hn1.size
  have q2s := hn2.size
  have q3s := hn3.size
  have hb1 := hp4.old (hn3.old (hn2.old hn1.blk)) (by omega)
  have hb2 := hp4.old (hn3.old hn2.blk) (by omega)
  have hb3 := hp4.blk
  have hB4 : Below w.heap.size w w4 := hp4.below (hn3.up (hn2.up hn1.below)) (by omega) (by omega)
  have hxs : RCells w4 (some ⟨g1, 0, none⟩) aXs := row_of_blk hb1 (Elems.one (d := dCell) rfl (dCell_nil _ false 2 (by decide) (by decide))) (by simp [aXs])
  have hys : RCons w4 (some ⟨g2, 0, none⟩) aYs := row_of_blk hb2 ((Elems.one (d := dCon) rfl (dCon_nil _ 1 0 0 (by decide) (by decide) (by decide))).push (cs := [.int .u8 2, .int .i64 1, .int .i64 0, .slice none 0 0]) rfl (dCon_nil _ 2 1 0 (by decide) (by decide) (by decide))) (by simp [aYs])
  clear hn1 hn2 hn3 hp4 q1 q2 q3 q1s q2s q3s hb1 hb2
  (repeat' (first | (refine wl_Lag tabOk hb3 rfl rfl rfl rfl rfl rfl (run_l tabOk ?_); conv => whnf) | refine fin1 rfl rfl ?_))
  refine wl_C fn27 (aByP (some ⟨g1, 0, none⟩) (some ⟨g2, 0, none⟩) 1 2 w4 hxs hys) rfl rfl rfl rfl rfl rfl rfl ?_
  rintro _ w5 ⟨gw, D1, d1, D2, d2, rfl, hcw, hr1, hr2, hB5⟩
  refine ⟨_, rfl, run_l tabOk ?_⟩
  conv => whnf
  (repeat' (first | refine fin1 rfl rfl ?_))
  refine wl_alloc tabOk rfl rfl rfl rfl rfl rfl ?_
  intro g5 w6 hn6
  refine run_l tabOk ?_
  conv => whnf
  refine wl_Sa tabOk hn6.blk rfl rfl rfl rfl rfl (by simp [Value.oneCell']) rfl rfl ?_
  intro w7 hp7
  have hB57 : Below w5.heap.size w5 w7 := hp7.below hn6.below (by have := hn6.at_; omega) (by have := hn6.size; omega)
  have hbt := hp7.blk
  have hb3 := blk_up (bup hB5 hB57) hb3
  have hcw := cell_up hB57 hcw
  have hr1 := hr1.up stays_Cell hB57
  have hr2 := hr2.up stays_Con hB57
  have hxs := hxs.up stays_Cell (bup hB5 hB57)
  have hys := hys.up stays_Con (bup hB5 hB57)
  have hB7 := bup hB4 (bup hB5 hB57)
  clear hp7 hn6 hB57 hB5 hB4
  refine run_l tabOk ?_
  conv => whnf
  (repeat' (first | (refine wl_Lag tabOk hb3 rfl rfl rfl rfl rfl rfl (run_l tabOk ?_); conv => whnf) | refine fin1 rfl rfl ?_))
  refine wl_C fn27 (aByH (some ⟨g1, 0, none⟩) (some ⟨g2, 0, none⟩) 1 2 w7 hxs hys) rfl rfl rfl rfl rfl rfl rfl ?_
  rintro _ w8 ⟨gv, E1, e1, E2, e2, rfl, hc0, hc1, hB8⟩
  refine ⟨_, rfl, run_l tabOk ?_⟩
  conv => whnf
  (repeat' (first | refine fin1 rfl rfl ?_))
  refine wl_alloc tabOk rfl rfl rfl rfl rfl rfl ?_
  intro g8 w9 hn9
  refine run_l tabOk ?_
  conv => whnf
  refine wl_Sa tabOk hn9.blk rfl rfl rfl rfl rfl (by simp [Value.oneCell']) rfl rfl ?_
  intro w10 hp10
  have hB810 : Below w8.heap.size w8 w10 := hp10.below hn9.below (by have := hn9.at_; omega) (by have := hn9.size; omega)
  have hbu := hp10.blk
  have hB710 := bup hB8 hB810
  have hb3 := blk_up hB710 hb3
  have hbt := blk_up hB710 hbt
  have hcw := cell_up hB710 hcw
  have hc0 := cell_up hB810 hc0
  have hc1 := cell_up hB810 hc1
  have hr1 := hr1.up stays_Cell hB710
  have hr2 := hr2.up stays_Con hB710
  have hxs := hxs.up stays_Cell hB710
  have hys := hys.up stays_Con hB710
  have hB10 := bup hB7 hB710
  clear hp10 hn9 hB810 hB8 hB710 hB7
  refine run_l tabOk ?_
  conv => whnf
  (repeat' (first | refine fin1 rfl rfl ?_))
  have hsm : ∀ W, Below w10.heap.size w10 W → Calls Try.prog 30 #[.agg #[.int .i64 3, .slice (some ⟨g1, 0, none⟩) 1 1, .slice (some ⟨g2, 0, none⟩) 2 2], .agg #[.int .i64 3, .slice D1 1 d1, .slice D2 2 d2]] W fun e w' => e = .returned (.bool true) ∧ Below W.heap.size W w' := fun W hb => by
    refine (refSame ⟨3, aXs, aYs⟩ ⟨3, aXs, aYs⟩ (some ⟨g1, 0, none⟩) (some ⟨g2, 0, none⟩) D1 D2 1 2 d1 d2 W (hxs.up stays_Cell hb) (hys.up stays_Con hb) (hr1.up stays_Cell hb) (hr2.up stays_Con hb)).mono ?_
    rintro e w' ⟨h1, h2⟩
    exact ⟨by rw [h1, show sameSys ⟨3, aXs, aYs⟩ ⟨3, aXs, aYs⟩ = true by decide], h2⟩
  have hcw : w10.cell? ((⟨gw, 0, none⟩ : Addr).add ((2 : Int).toNat * 1)) = _ := hcw
  have hc0 : w10.cell? ((⟨gv, 0, none⟩ : Addr).add ((0 : Int).toNat * 1)) = _ := hc0
  have hc1 : w10.cell? ((⟨gv, 0, none⟩ : Addr).add ((1 : Int).toNat * 1)) = _ := hc1
  refine wc_qr tabOk mixed (by kernel_rfl) ?_; conv => whnf
  (repeat' (first | (refine wq_Lg tabOk hbu rfl rfl rfl rfl rfl rfl rfl (run_q tabOk ?_); conv => whnf) | (refine wq_L tabOk rfl rfl rfl rfl rfl rfl hcw (run_q tabOk ?_); conv => whnf) | (refine wq_L tabOk rfl rfl rfl rfl rfl rfl hc0 (run_q tabOk ?_); conv => whnf) | (refine wq_L tabOk rfl rfl rfl rfl rfl rfl hc1 (run_q tabOk ?_); conv => whnf) | (refine wq_X tabOk 3 1 rfl rfl rfl rfl rfl rfl rfl (by omega) (by omega) (run_q tabOk ?_); conv => whnf) | (refine wq_Lag tabOk hb3 rfl rfl rfl rfl rfl rfl (run_q tabOk ?_); conv => whnf) | (refine wq_Lag tabOk hbt rfl rfl rfl rfl rfl rfl (run_q tabOk ?_); conv => whnf) | (refine wq_C fn30 (fun w _ => hsm w (by assumption)) rfl rfl rfl rfl rfl rfl rfl (run_q tabOk ?_); conv => whnf)))
  intro w11 hB11
  conv => whnf
  (repeat' (first | refine fin1 rfl rfl ?_))
  exact ⟨rfl, bup hB10 hB11⟩
end Go.Proofs.Ytjggjhgbobmkhaa

/- The example of the document's chapter on labels. -/
namespace Go.Proofs.Ytjggjhgbobmkhaa
open Go.RowKit
set_option linter.unusedVariables false
set_option linter.unusedSimpArgs false
set_option maxRecDepth 100000
theorem One.ne {g : List (List Int)} {kn : List (List Nat)} {of : Nat → Nat} {u v : Nat} (h : One g kn of u) (k : One g kn of v) (hne : u ≠ v) : of u ≠ of v := fun e => by
  have h1 := h.kn
  rw [e, k.kn] at h1
  injection h1 with h1
  exact hne h1.symm
end Go.Proofs.Ytjggjhgbobmkhaa

/- Each knot's label, by what comes into it: plain. -/
namespace Go.Proofs.Ytjggjhgbobmkhaa
set_option linter.unusedVariables false
set_option linter.unusedSimpArgs false
section
variable {vars : Nat} {into bases : List (List Int)} {lo : List Bool} {kn : List (List Nat)} {of : Nat → Nat}
abbrev Fresh (S W : List Int) (b : Bool) : Prop := b = true ∨ 1 < W.length ∨ 1 < S.length ∨ (W.length = 1 ∧ S.length = 1)
/-- Who has the label of a knot that has one of its own gets of it. -/
theorem fresh_reach (hG : GOk vars into bases lo) (hK : KnOk into kn of) {q : Nat} (hq : q < kn.length) (hf : Fresh (seenK into kn of (labN vars into bases lo kn of q).lab q) (ownK vars bases kn q) (looK lo kn q)) :
    ∀ p, p < kn.length → Lf vars into bases lo kn of p = Lf vars into bases lo kn of q → ∀ v ∈ kn[p]!, ∀ u ∈ kn[q]!, Rg into v u := by
  have hLq := labN_ok hG hK q (Nat.le_of_lt hq)
  have hlab : Lf vars into bases lo kn of q = ((labN vars into bases lo kn of q).nx : Int) ∧ (labN vars into bases lo kn of (q + 1)).nx = (labN vars into bases lo kn of q).nx + 1 ∧ (labN vars into bases lo kn of (q + 1)).ob = (labN vars into bases lo kn of q).ob := by
    have e1 := Lf_eq (vars := vars) (into := into) (bases := bases) (lo := lo) (of := of) hq
    unfold labR at e1
    have e3 : labelF (seenK into kn of (labN vars into bases lo kn of q).lab q) (ownK vars bases kn q) (looK lo kn q) (labN vars into bases lo kn of q).ob (labN vars into bases lo kn of q).nx = (((labN vars into bases lo kn of q).nx : Int), (labN vars into bases lo kn of q).nx + 1, (labN vars into bases lo kn of q).ob) := if_pos hf
    rw [e3] at e1
    refine ⟨e1, ?_, ?_⟩
    · show (labelF _ _ _ _ _).2.1 = _
      rw [e3]
    · show (labelF _ _ _ _ _).2.2 = _
      rw [e3]
  obtain ⟨hm, hnx, hob⟩ := hlab
  have inner : ∀ p a b, p < kn.length → a ∈ kn[p]! → b ∈ kn[p]! → Rg into a b := fun p a b hp ha hb => by
    obtain ⟨h1, h2⟩ := (hK.kn p hp).2.2 a ha
    obtain ⟨h3, h4⟩ := (hK.kn p hp).2.2 b hb
    exact ((hK.scc a b h1 h3).1 (by rw [h2, h4])).1
  intro p
  induction p using Nat.strongRecOn with
  | ind p ih =>
    intro hp he v hv u hu
    rw [hm] at he
    rcases Nat.lt_trichotomy p q with h1 | h1 | h1
    · have := (hLq.lab p h1).2
      rw [lab_fin h1 (Nat.le_of_lt hq)] at this
      omega
    · subst h1
      exact inner p v u hp hv hu
    · have hLp := labN_ok hG hK p (Nat.le_of_lt hp)
      have hmono : (labN vars into bases lo kn of (q + 1)).nx ≤ (labN vars into bases lo kn of p).nx := by
        obtain ⟨d, hd⟩ : ∃ d, p = q + 1 + d := ⟨p - (q + 1), by omega⟩
        rw [hd]
        exact nx_mono hG hK d (by omega)
      have e1 := Lf_eq (vars := vars) (into := into) (bases := bases) (lo := lo) (of := of) hp
      rw [he] at e1
      unfold labR at e1
      have hS0 : ∀ y, y ∈ seenK into kn of (labN vars into bases lo kn of p).lab p ↔ _ := fun y => mem_seenK
      obtain ⟨S, hS⟩ : ∃ S, S = seenK into kn of (labN vars into bases lo kn of p).lab p := ⟨_, rfl⟩
      rw [← hS] at e1 hS0
      generalize ownK vars bases kn p = W at e1
      unfold labelF at e1
      split at e1
      · simp only at e1
        omega
      · cases S with
        | cons x r =>
          have e1 : ((labN vars into bases lo kn of q).nx : Int) = x := e1
          obtain ⟨w, hw, y, hy, h2, h3, h4⟩ := (hS0 x).1 (by simp)
          obtain ⟨hwl, hd⟩ := hK.down hG.ri hp hw
          have hlt := Nat.lt_of_le_of_ne (hd y hy) h2
          have hyl : y.toNat < into.length := by have := hG.ri w hwl y hy; omega
          rw [lab_fin hlt (Nat.le_of_lt hp)] at h4
          have := ih (of y.toNat) hlt (by omega) (by rw [hm, ← h4, e1]) y.toNat (hK.at_ y.toNat hyl).2 u hu
          exact (inner p v w hp hv hw).trans (.step (ed_of hG.ri hwl hy) this)
        | nil =>
          cases W with
          | nil => simp only [labelO] at e1; omega
          | cons o r =>
            cases hoq : (labN vars into bases lo kn of p).ob o with
            | none =>
              simp only [labelO, hoq] at e1
              omega
            | some z =>
              simp only [labelO, hoq] at e1
              have hz : z = (labN vars into bases lo kn of q).nx := by omega
              subst hz
              obtain ⟨d, hd⟩ : ∃ d, p = q + 1 + d := ⟨p - (q + 1), by omega⟩
              rw [hd] at hoq
              cases hoo : (labN vars into bases lo kn of (q + 1)).ob o with
              | none =>
                have := ob_late hG hK hoo d (by omega) hoq
                omega
              | some z2 =>
                have h3 := ob_keep hoo d
                rw [hoq] at h3
                injection h3 with h3
                rw [hob] at hoo
                have := hLq.ob o z2 hoo
                omega
end
section
variable {n : Nat} {xs : List Cell} {ys : List Con} {kn kn2 : List (List Nat)} {of of2 : Nat → Nat}
end
end Go.Proofs.Ytjggjhgbobmkhaa
