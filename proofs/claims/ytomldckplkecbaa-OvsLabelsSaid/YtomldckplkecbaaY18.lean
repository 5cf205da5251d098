/- Several texts of one claim in one file: AO17 L1502 L1503 R0. -/
import Derived.Test.YtomldckplkecbaaY16
import Derived.Test.YtomldckplkecbaaY17
import Derived.Test.YtomldckplkecbaaY13
import Derived.Test.YtomldckplkecbaaY1
/- The example of the document's chapter on labels. -/
namespace Go.Proofs.Ytomldckplkecbaa
open Go.RowKit
set_option linter.unusedVariables false
set_option linter.unusedSimpArgs false
set_option maxRecDepth 100000
/-- Edges go down: no two nodes are come to from each other. -/
theorem rank_rg {g : List (List Int)} (r : Nat → Nat) (h : ∀ u v, Ed g u v → r v < r u) {u v : Nat} (hr : Rg g u v) : u = v ∨ r v < r u := by
  induction hr with
  | refl => exact .inl rfl
  | step e _ ih =>
    have := h _ _ e
    rcases ih with rfl | ih
    · exact .inr this
    · exact .inr (by omega)
theorem rank_one {g : List (List Int)} {kn : List (List Nat)} {of : Nat → Nat} (hK : KnOk g kn of) (r : Nat → Nat) (h : ∀ u v, Ed g u v → r v < r u) : ∀ v, v < g.length → One g kn of v := fun v hv => hK.single (fun a b _ _ h1 h2 => by
  rcases rank_rg r h h1 with e | h3
  · exact e
  · rcases rank_rg r h h2 with e | h4
    · exact e.symm
    · omega) hv
theorem One.ne {g : List (List Int)} {kn : List (List Nat)} {of : Nat → Nat} {u v : Nat} (h : One g kn of u) (k : One g kn of v) (hne : u ≠ v) : of u ≠ of v := fun e => by
  have h1 := h.kn
  rw [e, k.kn] at h1
  injection h1 with h1
  exact hne h1.symm
def aInto : List (List Int) := [[], [0], [], [], [], [], [], []]
def aBases : List (List Int) := [[0], [], [0], []]
def aLo : List Bool := [false, false, false, true, true, true, true, true]
theorem aw17 {kn : List (List Nat)} {of : Nat → Nat} (hG : GOk 4 aInto aBases aLo) (hK : KnOk aInto kn of) :
    lv 4 aInto aBases aLo kn of 0 = lv 4 aInto aBases aLo kn of 1 ∧ lv 4 aInto aBases aLo kn of 0 = lv 4 aInto aBases aLo kn of 2 ∧ 0 ≤ lv 4 aInto aBases aLo kn of 0 ∧ lv 4 aInto aBases aLo kn of 3 ≠ lv 4 aInto aBases aLo kn of 0 := by
  have hr : ∀ u v, Ed aInto u v → v < u := fun u v ⟨k, h1, h2, h3, h4⟩ => by
    have h1 : u < 8 := h1
    have : u = 0 ∨ u = 1 ∨ u = 2 ∨ u = 3 ∨ u = 4 ∨ u = 5 ∨ u = 6 ∨ u = 7 := by omega
    rcases this with rfl | rfl | rfl | rfl | rfl | rfl | rfl | rfl
    · exact absurd h3 (Nat.not_lt_zero k)
    · have hk : k = 0 := by have : k < 1 := h3; omega
      subst hk
      have : (0 : Int) = (v : Int) := h4
      omega
    all_goals exact absurd h3 (Nat.not_lt_zero k)
  have one := rank_one hK id hr
  have o0 := one 0 (by decide)
  have o1 := one 1 (by decide)
  have o2 := one 2 (by decide)
  have o3 := one 3 (by decide)
  obtain ⟨q, hq, hob⟩ := lv_own hG hK o0 (by omega) (o := 0) rfl rfl rfl
  obtain ⟨q2, hq2, hob2⟩ := lv_own hG hK o2 (by omega) (o := 0) rfl rfl rfl
  rw [hob] at hob2
  injection hob2 with hob2
  subst hob2
  have hc := lv_copy hG hK o1 (by omega) (x := 0) rfl rfl rfl (o0.ne o1 (by omega)) (by rw [hq]; omega)
  obtain ⟨f1, f2, f3⟩ := lv_fresh (vars := 4) (bases := aBases) (lo := aLo) hK o3 (.inl (by rw [o3.loo]; rfl))
  refine ⟨hc.symm, by rw [hq, hq2], by rw [hq]; omega, ?_⟩
  rw [f1, hq]
  have hk := (hK.at_ 3 (by decide)).1
  have hLO := labN_ok hG hK (of 3) (Nat.le_of_lt hk)
  obtain ⟨d, hd⟩ : ∃ d, kn.length = of 3 + 1 + d := ⟨kn.length - (of 3 + 1), by omega⟩
  cases hb : (labN 4 aInto aBases aLo kn of (of 3)).ob 0 with
  | some q3 =>
    have h1 := ob_keep hb (1 + d)
    rw [show of 3 + (1 + d) = kn.length by omega, hob] at h1
    injection h1 with h1
    have := hLO.ob 0 q3 hb
    omega
  | none =>
    have h1 := ob_late (k := of 3 + 1) (o := 0) (q := q) hG hK (by rw [f3]; exact hb) d (by omega) (by rw [← hd]; exact hob)
    rw [f2] at h1
    omega
set_option maxHeartbeats 4000000 in
theorem awake17 (w : World) : Calls Try.prog 14 #[] w fun e w' => e = .returned (.bool true) ∧ Below w.heap.size w w' := by
  refine enterR (args := []) tabOk Try.func14 rfl Try.ntmps14 rfl ?_; conv => whnf
  refine wl_bs tabOk 54 3 rfl rfl rfl rfl rfl rfl rfl rfl rfl rfl ?_
  intro g1 w1 hn1
  refine run_l tabOk ?_
  conv => whnf
  refine wl_bs tabOk 52 4 rfl rfl rfl rfl rfl rfl rfl rfl rfl rfl ?_
  intro g2 w2 hn2
  refine run_l tabOk ?_
  conv => whnf
  refine wl_alloc tabOk rfl rfl rfl rfl rfl rfl ?_
  intro g3 w3 hn3
  refine run_l tabOk ?_
  conv => whnf
  refine wl_Sa tabOk hn3.blk rfl rfl rfl rfl rfl (by simp [Value.oneCell']) rfl rfl ?_
  intro w4 hp4
  refine run_l tabOk ?_
  conv => whnf
  have q1 := hn1.at_
  have q2 := hn2.at_
  have q3 := hn3.at_
  have q1s := hn1.size
  have q2s := hn2.size
  have q3s := hn3.size
  have hb1 := hp4.old (hn3.old (hn2.old hn1.blk)) (by omega)
  have hb2 := hp4.old (hn3.old hn2.blk) (by omega)
  have hb3 := hp4.blk
  have hB4 : Below w.heap.size w w4 := hp4.below (hn3.up (hn2.up hn1.below)) (by omega) (by omega)
  (repeat' (first | (refine wl_Lag tabOk hb3 rfl rfl rfl rfl rfl rfl (run_l tabOk ?_); conv => whnf) | (refine wl_add rfl rfl rfl rfl rfl rfl (by omega) (by omega) (run_l tabOk ?_); conv => whnf) | (refine wl_sub rfl rfl rfl rfl rfl rfl (by omega) (by omega) (run_l tabOk ?_); conv => whnf) | (refine wl_cvA tabOk rfl rfl rfl (by simp only [inK]; omega) rfl rfl rfl (run_l tabOk ?_); conv => whnf) | (refine wl_cvB tabOk rfl rfl rfl rfl rfl rfl (run_l tabOk ?_); conv => whnf) | (refine wl_rem rfl rfl rfl rfl rfl rfl (by omega) (by omega) (fun r hr hr0 hr1 hr2 => run_l tabOk ?_); conv => whnf) | (refine wl_quo rfl rfl rfl rfl rfl rfl (by omega) (by omega) (by simp only [inK]; omega) (run_l tabOk ?_); conv => whnf) | (refine wl_mul rfl rfl rfl rfl rfl rfl (by omega) (by omega) (run_l tabOk ?_); conv => whnf) | (refine gs_dt (by first | assumption | omega) ?_; conv => whnf) | (refine gs_df (by first | assumption | omega) ?_; conv => whnf) | (refine gs_t (by assumption) ?_; conv => whnf) | (refine gs_f (by assumption) ?_; conv => whnf) | (refine gs_d (fun hg => ?_) (fun hg => ?_) <;> conv => whnf) | (refine gs_n (fun hg => ?_) (fun hg => ?_) <;> conv => whnf) | (refine gs_nb (fun hg => ?_) (fun hg => ?_) <;> conv => whnf) | (refine gs_b (fun hg => ?_) (fun hg => ?_) <;> conv => whnf) | refine fin1 rfl rfl ?_))
  have hxs : RCells w4 (some ⟨g1, 0, none⟩) [⟨false, 3, []⟩] := row_of_blk hb1 (Elems.one rfl (dCell_nil _ _ _ (by decide) (by decide))) (by simp)
  have hys : RCons w4 (some ⟨g2, 0, none⟩) [⟨1, 0, 0, []⟩, ⟨2, 1, 0, []⟩, ⟨1, 2, 0, []⟩] := row_of_blk hb2 (((Elems.one (d := dCon) rfl (dCon_nil _ 1 0 0 (by decide) (by decide) (by decide))).push (cs := [.int .u8 2, .int .i64 1, .int .i64 0, .slice none 0 0]) rfl (dCon_nil _ 2 1 0 (by decide) (by decide) (by decide))).push (cs := [.int .u8 1, .int .i64 2, .int .i64 0, .slice none 0 0]) rfl (dCon_nil _ 1 2 0 (by decide) (by decide) (by decide))) (by simp)
  have hr : rightB ⟨(4 : Nat), [⟨false, 3, []⟩], [⟨1, 0, 0, []⟩, ⟨2, 1, 0, []⟩, ⟨1, 2, 0, []⟩]⟩ = true := by decide
  refine wl_C fn16 (graphOfR 4 [⟨false, 3, []⟩] [⟨1, 0, 0, []⟩, ⟨2, 1, 0, []⟩, ⟨1, 2, 0, []⟩] (some ⟨g1, 0, none⟩) (some ⟨g2, 0, none⟩) 1 3 w4 hxs hys hr) rfl rfl rfl rfl rfl rfl rfl ?_
  rintro _ w5 ⟨A, B, C, rfl, k1, k2, k3, hB5⟩
  have hG := gok hr
  have e1 : (gfold ⟨(4 : Nat), [⟨false, 3, []⟩], [⟨1, 0, 0, []⟩, ⟨2, 1, 0, []⟩, ⟨1, 2, 0, []⟩]⟩).1 = aInto := by decide
  have e2 : (gfold ⟨(4 : Nat), [⟨false, 3, []⟩], [⟨1, 0, 0, []⟩, ⟨2, 1, 0, []⟩, ⟨1, 2, 0, []⟩]⟩).2 = aBases := by decide
  have e3 : looseB ⟨(4 : Nat), [⟨false, 3, []⟩], [⟨1, 0, 0, []⟩, ⟨2, 1, 0, []⟩, ⟨1, 2, 0, []⟩]⟩ ++ List.replicate 4 true = aLo := by decide
  rw [e1] at k1 hG
  rw [e2] at k2 hG
  rw [e3] at k3 hG
  refine ⟨_, rfl, run_l tabOk ?_⟩
  conv => whnf
  refine wl_C fn17 (oLabels 4 aInto aBases aLo A B C (2 * 4) 4 (2 * 4) w5 hG k1 k2 k3) rfl rfl rfl rfl rfl rfl rfl ?_
  rintro _ w6 ⟨kn, of, go, hK, rfl, hR, hB6⟩
  have hall := aw17 hG hK
  have rdl : ∀ j, j < 4 → w6.cell? ((⟨go, 0, none⟩ : Addr).add (j * 1)) = some (.int .i64 (lv 4 aInto aBases aLo kn of j)) := fun j hj => by
    obtain ⟨z, ad3, ⟨hz3⟩, e3, hc4, _, _⟩ := intsE hR j (by simpa using hj)
    rw [getElem!_pos _ j (by simpa using hj)] at hz3
    simp at hz3
    subst hz3
    injection e3 with e3
    subst e3
    exact hc4
  have c0 : w6.cell? ((⟨go, 0, none⟩ : Addr).add ((0 : Int).toNat * 1)) = _ := rdl 0 (by omega)
  have c1 : w6.cell? ((⟨go, 0, none⟩ : Addr).add ((1 : Int).toNat * 1)) = _ := rdl 1 (by omega)
  have c2 : w6.cell? ((⟨go, 0, none⟩ : Addr).add ((2 : Int).toNat * 1)) = _ := rdl 2 (by omega)
  have c3 : w6.cell? ((⟨go, 0, none⟩ : Addr).add ((3 : Int).toNat * 1)) = _ := rdl 3 (by omega)
  generalize lv 4 aInto aBases aLo kn of 0 = l0 at *
  generalize lv 4 aInto aBases aLo kn of 1 = l1 at *
  generalize lv 4 aInto aBases aLo kn of 2 = l2 at *
  generalize lv 4 aInto aBases aLo kn of 3 = l3 at *
  obtain ⟨h1, h2, h3, h4⟩ := hall
  refine ⟨_, rfl, run_l tabOk ?_⟩
  conv => whnf
  (repeat' (first | (refine wl_add rfl rfl rfl rfl rfl rfl (by omega) (by omega) (run_l tabOk ?_); conv => whnf) | (refine wl_sub rfl rfl rfl rfl rfl rfl (by omega) (by omega) (run_l tabOk ?_); conv => whnf) | (refine wl_cvA tabOk rfl rfl rfl (by simp only [inK]; omega) rfl rfl rfl (run_l tabOk ?_); conv => whnf) | (refine wl_cvB tabOk rfl rfl rfl rfl rfl rfl (run_l tabOk ?_); conv => whnf) | (refine wl_rem rfl rfl rfl rfl rfl rfl (by omega) (by omega) (fun r hr hr0 hr1 hr2 => run_l tabOk ?_); conv => whnf) | (refine wl_quo rfl rfl rfl rfl rfl rfl (by omega) (by omega) (by simp only [inK]; omega) (run_l tabOk ?_); conv => whnf) | (refine wl_mul rfl rfl rfl rfl rfl rfl (by omega) (by omega) (run_l tabOk ?_); conv => whnf) | (refine gs_dt (by first | assumption | omega) ?_; conv => whnf) | (refine gs_df (by first | assumption | omega) ?_; conv => whnf) | (refine gs_t (by assumption) ?_; conv => whnf) | (refine gs_f (by assumption) ?_; conv => whnf) | (refine gs_d (fun hg => ?_) (fun hg => ?_) <;> conv => whnf) | (refine gs_n (fun hg => ?_) (fun hg => ?_) <;> conv => whnf) | (refine gs_nb (fun hg => ?_) (fun hg => ?_) <;> conv => whnf) | (refine gs_b (fun hg => ?_) (fun hg => ?_) <;> conv => whnf) | refine fin1 rfl rfl ?_))
  refine wc_qr tabOk mixed (by kernel_rfl) ?_; conv => whnf
  have n1 : (!decide (l3 = l0)) = true := by simp [h4]
  have n2 : decide (l3 ≠ l0) = true := by simp [h4]
  have n3 : decide (¬ l3 = l0) = true := by simp [h4]
  (repeat' (first | (refine wq_L tabOk rfl rfl rfl rfl rfl rfl c0 (run_q tabOk ?_); conv => whnf) | (refine wq_L tabOk rfl rfl rfl rfl rfl rfl c1 (run_q tabOk ?_); conv => whnf) | (refine wq_L tabOk rfl rfl rfl rfl rfl rfl c2 (run_q tabOk ?_); conv => whnf) | (refine wq_L tabOk rfl rfl rfl rfl rfl rfl c3 (run_q tabOk ?_); conv => whnf) | (refine wq_X tabOk 3 1 rfl rfl rfl rfl rfl rfl rfl (by omega) (by omega) (run_q tabOk ?_); conv => whnf) | (rw [n1]; (conv => whnf)) | (rw [n2]; (conv => whnf)) | (rw [n3]; (conv => whnf)) | (refine wq_add rfl rfl rfl rfl rfl rfl (by omega) (by omega) (run_q tabOk ?_); conv => whnf) | (refine wq_sub rfl rfl rfl rfl rfl rfl (by omega) (by omega) (run_q tabOk ?_); conv => whnf) | (refine wq_cvA tabOk rfl rfl rfl (by simp only [inK]; omega) rfl rfl rfl (run_q tabOk ?_); conv => whnf) | (refine wq_cvB tabOk rfl rfl rfl rfl rfl rfl (run_q tabOk ?_); conv => whnf) | (refine wq_rem rfl rfl rfl rfl rfl rfl (by omega) (by omega) (fun r hr hr0 hr1 hr2 => run_q tabOk ?_); conv => whnf) | (refine wq_quo rfl rfl rfl rfl rfl rfl (by omega) (by omega) (by simp only [inK]; omega) (run_q tabOk ?_); conv => whnf) | (refine wq_mul rfl rfl rfl rfl rfl rfl (by omega) (by omega) (run_q tabOk ?_); conv => whnf) | (refine gs_dt (by first | assumption | omega) ?_; conv => whnf) | (refine gs_df (by first | assumption | omega) ?_; conv => whnf) | (refine gs_t (by assumption) ?_; conv => whnf) | (refine gs_f (by assumption) ?_; conv => whnf) | (refine gs_d (fun hg => ?_) (fun hg => ?_) <;> conv => whnf) | (refine gs_n (fun hg => ?_) (fun hg => ?_) <;> conv => whnf) | (refine gs_nb (fun hg => ?_) (fun hg => ?_) <;> conv => whnf) | (refine gs_b (fun hg => ?_) (fun hg => ?_) <;> conv => whnf)))
  intro w7 hB7
  conv => whnf
  (repeat' (first | (refine wl_add rfl rfl rfl rfl rfl rfl (by omega) (by omega) (run_l tabOk ?_); conv => whnf) | (refine wl_sub rfl rfl rfl rfl rfl rfl (by omega) (by omega) (run_l tabOk ?_); conv => whnf) | (refine wl_cvA tabOk rfl rfl rfl (by simp only [inK]; omega) rfl rfl rfl (run_l tabOk ?_); conv => whnf) | (refine wl_cvB tabOk rfl rfl rfl rfl rfl rfl (run_l tabOk ?_); conv => whnf) | (refine wl_rem rfl rfl rfl rfl rfl rfl (by omega) (by omega) (fun r hr hr0 hr1 hr2 => run_l tabOk ?_); conv => whnf) | (refine wl_quo rfl rfl rfl rfl rfl rfl (by omega) (by omega) (by simp only [inK]; omega) (run_l tabOk ?_); conv => whnf) | (refine wl_mul rfl rfl rfl rfl rfl rfl (by omega) (by omega) (run_l tabOk ?_); conv => whnf) | (refine gs_dt (by first | assumption | omega) ?_; conv => whnf) | (refine gs_df (by first | assumption | omega) ?_; conv => whnf) | (refine gs_t (by assumption) ?_; conv => whnf) | (refine gs_f (by assumption) ?_; conv => whnf) | (refine gs_d (fun hg => ?_) (fun hg => ?_) <;> conv => whnf) | (refine gs_n (fun hg => ?_) (fun hg => ?_) <;> conv => whnf) | (refine gs_nb (fun hg => ?_) (fun hg => ?_) <;> conv => whnf) | (refine gs_b (fun hg => ?_) (fun hg => ?_) <;> conv => whnf) | refine fin1 rfl rfl ?_))
  exact ⟨rfl, bup (bup hB4 hB5) (bup hB6 hB7)⟩
end Go.Proofs.Ytomldckplkecbaa

/- The walk of GraphOf. -/
namespace Go.Proofs.Ytomldckplkecbaa
open Go.RowKit
set_option linter.unusedVariables false
set_option linter.unusedSimpArgs false
set_option maxRecDepth 100000
/-- One more number, onto a row of the call's own, where another row is, too. -/
theorem ints_app {base : Nat} {w w1 w2 : World} {v v' u : Value} {ys zs : List Int} {flat : List Value} {y : Int} {gn : Nat} {cs : List Value} {t : TypeId} (h : GInts base w v ys) (hel : Elems 1 (dI .i64) w flat ys) (hn : New w w1 gn cs t)
    (hown : w2.ownsRow base 3 1 v' (ys.length + 1) (flat ++ [.int .i64 y])) (hg : w1.grownBy w2 v.ownBlock) (hob : v'.ownBlock = v.ownBlock ∨ v'.ownBlock = some w1.heap.size) (hy : -9223372036854775808 ≤ y ∧ y ≤ 9223372036854775807)
    (hu : GInts base w u zs) (hd : ∀ k, v.ownBlock = some k → u.ownBlock ≠ some k) :
    GInts base w2 v' (ys ++ [y]) ∧ GInts base w2 u zs ∧ (∀ k, v'.ownBlock = some k → u.ownBlock ≠ some k) ∧ (∀ w0, Below base w0 w → base ≤ w.heap.size → Below base w0 w2) := by
  have h1 := h.below hn.below
  have hu1 := hu.below hn.below
  refine ⟨gints_push h1 (fun w' _ => ⟨hel.1, hel.2⟩) hown hg hob hy, hu1.stays _ hg (by simp) ?_, ?_, fun w0 hb hle => (hb.trans (hn.below.mono hle)).grown hg (Nat.le_trans hle hn.below.size) (fun k hk => (h1.olt k hk).1)⟩
  · cases ho : u.ownBlock with
    | none => exact .inl rfl
    | some b => exact .inr fun e => hd b e.symm (by rw [ho])
  · intro k hk e
    rcases hob with e1 | e1
    · exact hd k (by rw [← e1]; exact hk) e
    · rw [hk] at e1
      cases e1
      have := (hu.olt _ e).2
      have := hn.size
      omega
theorem loose_get {n : Nat} {xs : List Cell} {ys : List Con} {v : Nat} (hv : v < 2 * n) : (looseB ⟨n, xs, ys⟩ ++ List.replicate n true)[v]! = (decide ((n : Int) ≤ v) || looseAt ⟨n, xs, ys⟩ v) := by
  have hl : (looseB ⟨n, xs, ys⟩).length = n := by rw [looseB_len]; simp
  rw [getElem!_pos _ v (by rw [List.length_append, hl, List.length_replicate]; omega), List.getElem_append]
  split
  · rename_i h
    have h' : v < n := by rw [hl] at h; exact h
    rw [show decide ((n : Int) ≤ v) = false by simp; omega, Bool.false_or, ← looseB_get ⟨n, xs, ys⟩ (by simpa using h'), getElem!_pos _ v h]
  · rename_i h
    rw [hl] at h
    rw [show decide ((n : Int) ≤ v) = true by simp; omega]
    simp
end Go.Proofs.Ytomldckplkecbaa

/- The walk of GraphStores. -/
namespace Go.Proofs.Ytomldckplkecbaa
open Go.RowKit
set_option linter.unusedVariables false
set_option linter.unusedSimpArgs false
set_option maxRecDepth 100000
def keepC (c : Con) : Bool := !decide (c.k = 4) && !decide (c.k = 5)
theorem gfold_keep (vars : Int) : ∀ (l : List Con) (p : List (List Int) × List (List Int)), l.foldl (gstep vars) p = (l.filter keepC).foldl (gstep vars) p
  | [], p => rfl
  | c :: l, p => by
    rw [List.foldl_cons, gfold_keep vars l]
    by_cases h : keepC c = true
    · rw [List.filter_cons_of_pos h, List.foldl_cons]
    · rw [List.filter_cons_of_neg h]
      have : gstep vars p c = p := by
        have h' : c.k = 4 ∨ c.k = 5 := by
          simp only [keepC, Bool.and_eq_true, Bool.not_eq_true', decide_eq_false_iff_not] at h
          omega
        unfold gstep
        rw [if_neg (by omega), if_neg (by omega), if_neg (by omega)]
      rw [this]
theorem right_keep {n : Int} {xs : List Cell} {ys : List Con} (h : rightB ⟨n, xs, ys⟩ = true) : rightB ⟨n, xs, ys.filter keepC⟩ = true := by
  simp only [rightB, bigOk, Bool.and_eq_true, decide_eq_true_eq, List.all_eq_true] at h ⊢
  have := List.length_filter_le keepC ys
  exact ⟨⟨⟨h.1.1.1, by omega⟩, h.1.2⟩, fun c hc => h.2 c (List.mem_filter.1 hc).1⟩
theorem loose_keep {n : Int} {xs : List Cell} {ys : List Con} {v : Int} (h : looseAt ⟨n, xs, ys.filter keepC⟩ v = true) : looseAt ⟨n, xs, ys⟩ v = true := by
  simp only [looseAt, Bool.or_eq_true, List.any_eq_true] at h ⊢
  rcases h with h | ⟨c, hc, h⟩
  · exact .inl h
  · exact .inr ⟨c, (List.mem_filter.1 hc).1, h⟩
theorem cellsAt_keep {w w' : World} {a : Addr} : ∀ {cs : List Value} {i : Nat}, w'.heap[a.block]? = w.heap[a.block]? → cellsAt w a i cs → cellsAt w' a i cs
  | [], _, _, h => h
  | v :: cs, i, hb, h => ⟨(World.cell?_of_block (by rw [add_block]; exact hb)).trans h.1, cellsAt_keep hb h.2⟩
theorem filter_take {α : Type} [Inhabited α] (p : α → Bool) {xs : List α} {i : Nat} (h : i < xs.length) : (xs.take (i + 1)).filter p = (xs.take i).filter p ++ (if p xs[i]! then [xs[i]!] else []) := by
  rw [take_next h, List.filter_append]
  congr 1
  by_cases hp : p xs[i]! = true
  · rw [if_pos hp, List.filter_cons_of_pos hp]; rfl
  · rw [if_neg hp, List.filter_cons_of_neg hp]; rfl
end Go.Proofs.Ytomldckplkecbaa

/- The last steps of a law's row, once for all laws: arguments opened, what is read again. -/
namespace Go.Proofs.Ytomldckplkecbaa
open Go.ChangeShapes Go.WideShapes Go.ChangeAt Go.RowKit
set_option linter.unusedVariables false
set_option linter.unusedSimpArgs false
set_option maxRecDepth 100000
section
variable {H : Type} {enc : TypeId × Value → H} {W : World} {base : Nat}
theorem open_D {α : Type} {D : Dec α} {t : TypeId} {v : Value} {d : DataW H} {p : List MemPlace} (h : DataW.Trod enc Try.prog W 0 (fun _ => true) true t v d p) (ho : Opens enc Try.prog W 0 (fun _ => true) true t D) : ∃ a, D W v.cells.toList a := trod_of_Trod h ho
theorem open_Sys {v : Value} {d : DataW H} {p : List MemPlace} (hv : Value.okWide Try.prog W .any base 41 v) (h : DataW.Trod enc Try.prog W 0 (fun _ => true) true 41 v d p) :
    ∃ (s : Sys) (A B : Option Addr) (c e : Nat), v = .agg #[.int .i64 s.vars, .slice A s.cells.length c, .slice B s.cons.length e] ∧ RCells W A s.cells ∧ RCons W B s.cons ∧ -9223372036854775808 ≤ s.vars ∧ s.vars ≤ 9223372036854775807 := by
  obtain ⟨cs, rfl, _⟩ := okWide_struct Try.underlying41 hv
  obtain ⟨s, A, c, B, e, hc, h1, h2, _, _, h3⟩ := open_D h opens_Sys
  refine ⟨s, A, B, c, e, ?_, h1, h2, h3⟩
  simp only [Value.cells] at hc
  rw [← hc]
theorem open_Draft {v : Value} {d : DataW H} {p : List MemPlace} (hv : Value.okWide Try.prog W .any base 37 v) (h : DataW.Trod enc Try.prog W 0 (fun _ => true) true 37 v d p) :
    ∃ (s : Draft) (A : Option Addr) (c : Nat), v = .agg #[.int .u8 s.vars, .int .u8 s.cells, .slice A s.acts.length c] ∧ RActs W A s.acts ∧ (0 ≤ s.vars ∧ s.vars ≤ 255) ∧ 0 ≤ s.cells ∧ s.cells ≤ 255 := by
  obtain ⟨cs, rfl, _⟩ := okWide_struct Try.underlying37 hv
  obtain ⟨s, A, c, hc, h1, h2⟩ := open_D h opens_Draft
  refine ⟨s, A, c, ?_, h1, h2⟩
  simp only [Value.cells] at hc
  rw [← hc]
theorem open_row {α : Type} [Inhabited α] {sz : Nat} {D : Dec α} {t e : TypeId} {v : Value} {d : DataW H} {p : List MemPlace} (ht : Try.prog.underlying t = some (.slice e)) (hv : Value.okWide Try.prog W .any base t v) (h : DataW.Trod enc Try.prog W 0 (fun _ => true) true t v d p) (ho : Opens enc Try.prog W 0 (fun _ => true) true t (dS sz D)) :
    ∃ (xs : List α) (A : Option Addr) (c : Nat), v = .slice A xs.length c ∧ xs.length ≤ c ∧ RowR sz D W A xs := by
  obtain ⟨a, n, c, rfl⟩ := okWide_slice ht hv
  obtain ⟨xs, A, c', hc, hl, hr⟩ := open_D h ho
  simp only [Value.cells, List.cons.injEq, and_true] at hc
  exact ⟨xs, A, c', hc, hl, hr⟩
end
end Go.Proofs.Ytomldckplkecbaa
