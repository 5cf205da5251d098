/- Several texts of one claim in one file: G15 L1201 L1204 L1206 L1205. -/
import Derived.Test.YtjggjhgbobmkhaaC6
import Derived.Test.YtjggjhgbobmkhaaC11
import Derived.Test.YtjggjhgbobmkhaaC9
import Derived.Test.YtjggjhgbobmkhaaC4
import Derived.Test.YtjggjhgbobmkhaaC10
/- graph.Of: a system's offline graph. -/
namespace Go.Proofs.Ytjggjhgbobmkhaa
open Go.RowKit
set_option linter.unusedVariables false
set_option linter.unusedSimpArgs false
set_option maxRecDepth 100000
structure Gph where
  vars : Int
  into : List (List Int)
  bases : List (List Int)
  loose : List Bool
deriving Inhabited
def addAt (M : List (List Int)) (a x : Int) : List (List Int) := M.set a.toNat (M[a.toNat]! ++ [x])
def gstep (vars : Int) (p : List (List Int) × List (List Int)) (c : Con) : List (List Int) × List (List Int) :=
  if c.k = 1 then (p.1, addAt p.2 c.a c.b) else if c.k = 2 then (addAt p.1 c.a c.b, p.2) else if c.k = 3 then (addAt p.1 c.a (vars + c.b), p.2) else p
def gfold (s : Sys) : List (List Int) × List (List Int) := s.cons.foldl (gstep s.vars) (List.replicate (2 * s.vars.toNat) [], List.replicate s.vars.toNat [])
def graphOf (s : Sys) : Gph := if rightB s then ⟨s.vars, (gfold s).1, (gfold s).2, looseB s ++ List.replicate s.vars.toNat true⟩ else ⟨0, [], [], []⟩
theorem gstep_len (vars : Int) (p : List (List Int) × List (List Int)) (c : Con) : (gstep vars p c).1.length = p.1.length ∧ (gstep vars p c).2.length = p.2.length := by
  unfold gstep addAt
  split
  · simp
  · split
    · simp
    · split <;> simp
theorem gfold_len (vars : Int) : ∀ (l : List Con) (p : List (List Int) × List (List Int)), (l.foldl (gstep vars) p).1.length = p.1.length ∧ (l.foldl (gstep vars) p).2.length = p.2.length
  | [], p => ⟨rfl, rfl⟩
  | c :: l, p => by
    have h := gfold_len vars l (gstep vars p c)
    have h2 := gstep_len vars p c
    exact ⟨h.1.trans h2.1, h.2.trans h2.2⟩
theorem gfold_small (vars : Int) {m : Nat} : ∀ (l : List Con) (p : List (List Int) × List (List Int)), (∀ i, i < p.1.length → p.1[i]!.length ≤ m) → (∀ i, i < p.2.length → p.2[i]!.length ≤ m) → (∀ i, i < p.1.length → (l.foldl (gstep vars) p).1[i]!.length ≤ m + l.length) ∧ (∀ i, i < p.2.length → (l.foldl (gstep vars) p).2[i]!.length ≤ m + l.length)
  | [], p, h1, h2 => ⟨by simpa using h1, by simpa using h2⟩
  | c :: l, p, h1, h2 => by
    have hl := gstep_len vars p c
    have add : ∀ (M : List (List Int)) (a x : Int), (∀ i, i < M.length → M[i]!.length ≤ m) → ∀ i, i < M.length → (addAt M a x)[i]!.length ≤ m + 1 := fun M a x h i hi => by
      unfold addAt
      rw [get_set _ _ _ _ hi]
      split
      · rename_i e; subst e; have := h _ hi; rw [List.length_append, List.length_singleton]; omega
      · have := h i hi; omega
    have k1 : ∀ i, i < (gstep vars p c).1.length → (gstep vars p c).1[i]!.length ≤ m + 1 := fun i hi => by
      rw [hl.1] at hi
      unfold gstep
      split
      · have := h1 i hi; simp only; omega
      · split
        · exact add _ _ _ h1 i hi
        · split
          · exact add _ _ _ h1 i hi
          · have := h1 i hi; omega
    have k2 : ∀ i, i < (gstep vars p c).2.length → (gstep vars p c).2[i]!.length ≤ m + 1 := fun i hi => by
      rw [hl.2] at hi
      unfold gstep
      split
      · exact add _ _ _ h2 i hi
      · split
        · have := h2 i hi; simp only; omega
        · split
          · have := h2 i hi; simp only; omega
          · have := h2 i hi; omega
    have := gfold_small vars l (gstep vars p c) k1 k2
    rw [hl.1, hl.2] at this
    refine ⟨fun i hi => ?_, fun i hi => ?_⟩
    · have := this.1 i hi; simp only [List.foldl_cons, List.length_cons]; omega
    · have := this.2 i hi; simp only [List.foldl_cons, List.length_cons]; omega
theorem set_true (A : List Bool) (i k : Nat) : (A ++ List.replicate i true ++ List.replicate (k + 1) false).set (A.length + i) true = A ++ List.replicate (i + 1) true ++ List.replicate k false := by
  rw [List.set_append_right _ _ (by simp)]
  have e : A.length + i - (A ++ List.replicate i true).length = 0 := by simp
  rw [e, show List.replicate (k + 1) false = false :: List.replicate k false from rfl, List.set_cons_zero, List.replicate_succ' (n := i)]
  simp
theorem vb_one (L : List Bool) : ∀ v ∈ vb L, v.oneCell' = true := fun v hv => by
  simp only [vb, List.mem_map] at hv
  obtain ⟨b, _, rfl⟩ := hv
  rfl
/-- In the loop over the constraints. -/
structure GI (w0 w : World) (g1 g2 gI gB gL g3 : Nat) (b1 b2 b3 : List Value) (vI vB : List Value) (p : List (List Int) × List (List Int)) (L : List Bool) (bI bB : List Nat) : Prop where
  below : Below w0.heap.size w0 w
  b1 : w.heap[g1]? = some (.cells b1.toArray 29 (0, 0))
  b2 : w.heap[g2]? = some (.cells b2.toArray 36 (0, 0))
  b3 : w.heap[g3]? = some (.cells b3.toArray 36 (0, 0))
  bL : w.heap[gL]? = some (.cells (vb L).toArray 4 (0, 0))
  mI : GMat w0.heap.size gI w vI p.1 bI
  mB : GMat w0.heap.size gB w vB p.2 bB
  dis : ∀ b ∈ bI, b ∉ bB
  fix : ∀ b, b ∈ bI ∨ b ∈ bB → b ≠ g1 ∧ b ≠ g2 ∧ b ≠ g3 ∧ b ≠ gL ∧ b ≠ gI ∧ b ≠ gB
  ne : (gI ≠ g1 ∧ gI ≠ g2 ∧ gI ≠ g3 ∧ gI ≠ gL ∧ gI ≠ gB) ∧ gB ≠ g1 ∧ gB ≠ g2 ∧ gB ≠ g3 ∧ gB ≠ gL
section
variable {w0 w w1 w2 : World} {g1 g2 gI gB gL g3 : Nat} {b1 b2 b3 vI vB : List Value} {p : List (List Int) × List (List Int)} {L : List Bool} {bI bB : List Nat}
theorem GI.up (h : GI w0 w g1 g2 gI gB gL g3 b1 b2 b3 vI vB p L bI bB) (hb : Below w.heap.size w w1) : GI w0 w1 g1 g2 gI gB gL g3 b1 b2 b3 vI vB p L bI bB :=
  ⟨bup h.below hb, blk_up hb h.b1, blk_up hb h.b2, blk_up hb h.b3, blk_up hb h.bL, h.mI.below hb, h.mB.below hb, h.dis, h.fix, h.ne⟩
theorem GI.putL (h : GI w0 w g1 g2 gI gB gL g3 b1 b2 b3 vI vB p L bI bB) (hL : w0.heap.size ≤ gL) (hne : gL ≠ g1 ∧ gL ≠ g2 ∧ gL ≠ g3) {L' : List Bool} (hp : Put w w1 gL (vb L') 4) : GI w0 w1 g1 g2 gI gB gL g3 b1 b2 b3 vI vB p L' bI bB := by
  refine ⟨hp.below h.below hL h.below.size, hp.old h.b1 (fun e => hne.1 e.symm), hp.old h.b2 (fun e => hne.2.1 e.symm), hp.old h.b3 (fun e => hne.2.2 e.symm), hp.blk, h.mI.stays hp.grown (fun b e => ?_), h.mB.stays hp.grown (fun b e => ?_), h.dis, h.fix, h.ne⟩
  · cases e
    exact ⟨fun e' => h.ne.1.2.2.2.1 e'.symm, fun hb => (h.fix gL (.inl hb)).2.2.2.1 rfl⟩
  · cases e
    exact ⟨fun e' => h.ne.2.2.2.2 e'.symm, fun hb => (h.fix gL (.inr hb)).2.2.2.1 rfl⟩
theorem GMat.cellC {base g : Nat} {w : World} {vs : List Value} {M : List (List Int)} {bl : List Nat} (h : GMat base g w vs M bl) {i : Nat} (hi : i < M.length) {w' : World} (hb : w'.heap[g]? = w.heap[g]?) : w'.cell? ((⟨g, 0, none⟩ : Addr).add (i * 1)) = some vs[i]! :=
  (World.cell?_of_block (by rw [add_block]; exact hb)).trans (h.cell hi)
/-- Something is added to a row of the second matrix. -/
theorem GI.addB (h : GI w0 w g1 g2 gI gB gL g3 b1 b2 b3 vI vB p L bI bB) {i : Nat} (hi : i < p.2.length) {v' : Value} {x : Int} (hv : GInts w0.heap.size w1 v' (p.2[i]! ++ [x])) (hgr : w.grownBy w1 vB[i]!.ownBlock)
    (hob : v'.ownBlock = vB[i]!.ownBlock ∨ ∃ b, v'.ownBlock = some b ∧ w.heap.size ≤ b) (hp : Put w1 w2 gB (vB.set i v') 31) :
    GI w0 w2 g1 g2 gI gB gL g3 b1 b2 b3 vI (vB.set i v') (p.1, p.2.set i (p.2[i]! ++ [x])) L bI (bB ++ v'.ownBlock.toList) := by
  have hm := h.mB.app hi hv hgr hob hp
  have hrow : ∀ b, vB[i]!.ownBlock = some b → b ∈ bB := (h.mB.row i hi).2
  have keep : ∀ {k : Nat} {o : Obj}, w.heap[k]? = some o → (∀ b, b ∈ bB → k ≠ b) → k ≠ gB → w2.heap[k]? = some o := fun {k o} hk h1 h2 => by
    refine hp.old ((hgr.block k (blk_lt hk) fun e => h1 k (hrow k e.symm) rfl).trans hk) h2
  have hs := h.mB.hg
  have hnew : ∀ b, b ∈ v'.ownBlock.toList → b ∈ bB ∨ w.heap.size ≤ b := fun b hb => by
    rcases hob with e1 | ⟨b', e1, e2⟩
    · exact .inl (hrow b (by rw [← e1]; exact mem_own hb))
    · rw [e1] at hb; simp at hb; subst hb; exact .inr e2
  have hbelow : Below w0.heap.size w0 w1 := h.below.grown hgr h.below.size (fun k hk => (h.mB.lt k (hrow k hk)).1)
  refine ⟨hp.below hbelow hs hbelow.size, keep h.b1 (fun b hb e => (h.fix b (.inr hb)).1 e.symm) (fun e => h.ne.2.1 e.symm), keep h.b2 (fun b hb e => (h.fix b (.inr hb)).2.1 e.symm) (fun e => h.ne.2.2.1 e.symm), keep h.b3 (fun b hb e => (h.fix b (.inr hb)).2.2.1 e.symm) (fun e => h.ne.2.2.2.1 e.symm), keep h.bL (fun b hb e => (h.fix b (.inr hb)).2.2.2.1 e.symm) (fun e => h.ne.2.2.2.2 e.symm), ?_, hm, ?_, ?_, h.ne⟩
  · refine (h.mI.stays hgr fun b e => ⟨fun e' => (h.fix b (.inr (hrow b e))).2.2.2.2.1 e', fun hb => h.dis b hb (hrow b e)⟩).stays hp.grown fun b e => ?_
    cases e
    exact ⟨fun e' => h.ne.1.2.2.2.2 e'.symm, fun hb => (h.fix gB (.inl hb)).2.2.2.2.2 rfl⟩
  · intro b hb hm
    rcases List.mem_append.1 hm with hm | hm
    · exact h.dis b hb hm
    · rcases hnew b hm with h1 | h1
      · exact h.dis b hb h1
      · have := (h.mI.lt b hb).2; omega
  · intro b hb
    have key : b ∈ bI ∨ b ∈ bB ∨ w.heap.size ≤ b := by
      rcases hb with hb | hb
      · exact .inl hb
      · rcases List.mem_append.1 hb with hb | hb
        · exact .inr (.inl hb)
        · exact .inr (hnew b hb)
    rcases key with hb | hb | hb
    · exact h.fix b (.inl hb)
    · exact h.fix b (.inr hb)
    · have := blk_lt h.b1; have := blk_lt h.b2; have := blk_lt h.b3; have := blk_lt h.bL; have := blk_lt h.mI.blk; have := blk_lt h.mB.blk
      omega
/-- .. and of the first one. -/
theorem GI.addI (h : GI w0 w g1 g2 gI gB gL g3 b1 b2 b3 vI vB p L bI bB) {i : Nat} (hi : i < p.1.length) {v' : Value} {x : Int} (hv : GInts w0.heap.size w1 v' (p.1[i]! ++ [x])) (hgr : w.grownBy w1 vI[i]!.ownBlock)
    (hob : v'.ownBlock = vI[i]!.ownBlock ∨ ∃ b, v'.ownBlock = some b ∧ w.heap.size ≤ b) (hp : Put w1 w2 gI (vI.set i v') 31) :
    GI w0 w2 g1 g2 gI gB gL g3 b1 b2 b3 (vI.set i v') vB (p.1.set i (p.1[i]! ++ [x]), p.2) L (bI ++ v'.ownBlock.toList) bB := by
  have hm := h.mI.app hi hv hgr hob hp
  have hrow : ∀ b, vI[i]!.ownBlock = some b → b ∈ bI := (h.mI.row i hi).2
  have keep : ∀ {k : Nat} {o : Obj}, w.heap[k]? = some o → (∀ b, b ∈ bI → k ≠ b) → k ≠ gI → w2.heap[k]? = some o := fun {k o} hk h1 h2 => by
    refine hp.old ((hgr.block k (blk_lt hk) fun e => h1 k (hrow k e.symm) rfl).trans hk) h2
  have hs := h.mI.hg
  have hnew : ∀ b, b ∈ v'.ownBlock.toList → b ∈ bI ∨ w.heap.size ≤ b := fun b hb => by
    rcases hob with e1 | ⟨b', e1, e2⟩
    · exact .inl (hrow b (by rw [← e1]; exact mem_own hb))
    · rw [e1] at hb; simp at hb; subst hb; exact .inr e2
  have hbelow : Below w0.heap.size w0 w1 := h.below.grown hgr h.below.size (fun k hk => (h.mI.lt k (hrow k hk)).1)
  refine ⟨hp.below hbelow hs hbelow.size, keep h.b1 (fun b hb e => (h.fix b (.inl hb)).1 e.symm) (fun e => h.ne.1.1 e.symm), keep h.b2 (fun b hb e => (h.fix b (.inl hb)).2.1 e.symm) (fun e => h.ne.1.2.1 e.symm), keep h.b3 (fun b hb e => (h.fix b (.inl hb)).2.2.1 e.symm) (fun e => h.ne.1.2.2.1 e.symm), keep h.bL (fun b hb e => (h.fix b (.inl hb)).2.2.2.1 e.symm) (fun e => h.ne.1.2.2.2.1 e.symm), hm, ?_, ?_, ?_, h.ne⟩
  · refine (h.mB.stays hgr fun b e => ⟨fun e' => (h.fix b (.inl (hrow b e))).2.2.2.2.2 e', fun hb => h.dis b (hrow b e) hb⟩).stays hp.grown fun b e => ?_
    cases e
    exact ⟨fun e' => h.ne.1.2.2.2.2 e', fun hb => (h.fix gI (.inr hb)).2.2.2.2.1 rfl⟩
  · intro b hm hb
    rcases List.mem_append.1 hm with hm | hm
    · exact h.dis b hm hb
    · rcases hnew b hm with h1 | h1
      · exact h.dis b h1 hb
      · have := (h.mB.lt b hb).2; omega
  · intro b hb
    have key : b ∈ bI ∨ b ∈ bB ∨ w.heap.size ≤ b := by
      rcases hb with hb | hb
      · rcases List.mem_append.1 hb with hb | hb
        · exact .inl hb
        · rcases hnew b hb with h1 | h1
          · exact .inl h1
          · exact .inr (.inr h1)
      · exact .inr (.inl hb)
    rcases key with hb | hb | hb
    · exact h.fix b (.inl hb)
    · exact h.fix b (.inr hb)
    · have := blk_lt h.b1; have := blk_lt h.b2; have := blk_lt h.b3; have := blk_lt h.bL; have := blk_lt h.mI.blk; have := blk_lt h.mB.blk
      omega
end
set_option maxHeartbeats 8000000 in
theorem graphOfC (s : Sys) (A1 A2 : Option Addr) (c1 c2 : Nat) (w : World) (h1 : RCells w A1 s.cells) (h2 : RCons w A2 s.cons) :
    Calls Try.prog 17 #[.agg #[.int .i64 s.vars, .slice A1 s.cells.length c1, .slice A2 s.cons.length c2]] w fun e w' => ∃ A B C, e = .returned (.agg #[.int .i64 (graphOf s).vars, .slice A (graphOf s).into.length (graphOf s).into.length, .slice B (graphOf s).bases.length (graphOf s).bases.length, .slice C (graphOf s).loose.length (graphOf s).loose.length]) ∧
      RRows w' A (graphOf s).into ∧ RRows w' B (graphOf s).bases ∧ RowR 1 dB w' C (graphOf s).loose ∧ Below w.heap.size w w' := by
  have m1 := h1.1
  have m2 := h2.1
  refine enterR (args := [.agg #[.int .i64 s.vars, .slice A1 s.cells.length c1, .slice A2 s.cons.length c2]]) tabOk Try.func17 rfl Try.ntmps17 rfl ?_; conv => whnf
  refine wl_box rfl rfl rfl rfl rfl rfl ?_
  intro g1 w1 hn1
  have hb1 := hn1.blk
  refine run_l tabOk ?_
  conv => whnf
  refine wl_alloc tabOk rfl rfl rfl rfl rfl rfl ?_
  intro g2 w2 hn2
  have hb1 := hn2.old hb1
  have hb2 := hn2.blk
  have hB := hn2.up hn1.below
  have hg12 : g1 < g2 := by have := hn1.at_; have := hn1.size; have := hn2.at_; omega
  have hg0 : w.heap.size ≤ g1 := by have := hn1.at_; omega
  refine run_l tabOk ?_
  conv => whnf
  (repeat' (first | (refine wl_Lag tabOk hb1 rfl rfl rfl rfl rfl rfl (run_l tabOk ?_); conv => whnf) | ((first | refine wl_add rfl rfl rfl rfl rfl rfl (by omega) (by omega) (run_l tabOk ?_) | refine wl_sub rfl rfl rfl rfl rfl rfl (by omega) (by omega) (run_l tabOk ?_) | refine wl_cvA tabOk rfl rfl rfl (by simp only [inK]; omega) rfl rfl rfl (run_l tabOk ?_) | refine wl_cvB tabOk rfl rfl rfl rfl rfl rfl (run_l tabOk ?_) | refine wl_rem rfl rfl rfl rfl rfl rfl (by omega) (by omega) (fun r hr hr0 hr1 hr2 => run_l tabOk ?_) | refine wl_quo rfl rfl rfl rfl rfl rfl (by omega) (by omega) (by simp only [inK]; omega) (run_l tabOk ?_) | refine wl_mul rfl rfl rfl rfl rfl rfl (by omega) (by omega) (run_l tabOk ?_) | refine gs_dt (by first | assumption | omega) ?_ | refine gs_df (by first | assumption | omega) ?_ | refine gs_t (by assumption) ?_ | refine gs_f (by assumption) ?_ | refine gs_d (fun hg => ?_) (fun hg => ?_) | refine gs_n (fun hg => ?_) (fun hg => ?_) | refine gs_nb (fun hg => ?_) (fun hg => ?_) | refine gs_b (fun hg => ?_) (fun hg => ?_)) <;> conv => whnf) | refine fin1 rfl rfl ?_))
  refine wl_C fn33 (sysRight s A1 A2 c1 c2 w2 (h1.up stays_Cell hB) (h2.up stays_Con hB)) rfl rfl rfl rfl rfl rfl rfl ?_
  rintro _ w3 ⟨rfl, hB3⟩
  have hb1 := blk_up hB3 hb1
  have hb2 := blk_up hB3 hb2
  have hB := bup hB hB3
  clear hn1 hn2 hB3
  refine ⟨_, rfl, run_l tabOk ?_⟩
  conv => whnf
  (repeat' (first | (refine wl_Lg tabOk hb1 rfl rfl rfl rfl rfl rfl rfl (run_l tabOk ?_); conv => whnf) | ((first | refine wl_add rfl rfl rfl rfl rfl rfl (by omega) (by omega) (run_l tabOk ?_) | refine wl_sub rfl rfl rfl rfl rfl rfl (by omega) (by omega) (run_l tabOk ?_) | refine wl_cvA tabOk rfl rfl rfl (by simp only [inK]; omega) rfl rfl rfl (run_l tabOk ?_) | refine wl_cvB tabOk rfl rfl rfl rfl rfl rfl (run_l tabOk ?_) | refine wl_rem rfl rfl rfl rfl rfl rfl (by omega) (by omega) (fun r hr hr0 hr1 hr2 => run_l tabOk ?_) | refine wl_quo rfl rfl rfl rfl rfl rfl (by omega) (by omega) (by simp only [inK]; omega) (run_l tabOk ?_) | refine wl_mul rfl rfl rfl rfl rfl rfl (by omega) (by omega) (run_l tabOk ?_) | refine gs_dt (by first | assumption | omega) ?_ | refine gs_df (by first | assumption | omega) ?_ | refine gs_t (by assumption) ?_ | refine gs_f (by assumption) ?_ | refine gs_d (fun hg => ?_) (fun hg => ?_) | refine gs_n (fun hg => ?_) (fun hg => ?_) | refine gs_nb (fun hg => ?_) (fun hg => ?_) | refine gs_b (fun hg => ?_) (fun hg => ?_)) <;> conv => whnf) | refine fin1 rfl rfl ?_))
  · rename_i hnr
    refine wl_Sa tabOk hb2 rfl rfl rfl rfl rfl (by simp [Value.oneCell']) rfl rfl ?_
    intro w4 hp4
    refine run_l tabOk ?_
    conv => whnf
    have e : graphOf s = ⟨0, [], [], []⟩ := by simp_all [graphOf]
    rw [e]
    refine fin_c tabOk rfl hp4.blk rfl rfl ⟨none, none, none, rfl, RowR.nil .., RowR.nil .., RowR.nil .., hp4.below hB (by omega) hB.size⟩
  have hr0 : 0 ≤ s.vars ∧ s.vars ≤ 16384 ∧ s.cons.length ≤ 131072 := by
    have hr := hg
    simp only [rightB, bigOk, Bool.and_eq_true, decide_eq_true_eq] at hr
    exact ⟨hr.1.1.1.1.1, hr.1.1.1.1.2, hr.1.1.2⟩
  have hgood : ∀ i, i < s.cons.length → conOk s.vars s.cells.length s.cons[i]! = true := fun i hi => by
    have hr := hg
    simp only [rightB, Bool.and_eq_true, List.all_eq_true] at hr
    exact hr.2 _ (mem_get hi)
  obtain ⟨n, hn⟩ : ∃ n : Nat, s.vars = n := ⟨s.vars.toNat, by omega⟩
  rw [hn] at hb1
  have hgr : graphOf s = ⟨n, (gfold s).1, (gfold s).2, looseB s ++ List.replicate n true⟩ := by
    rw [graphOf, if_pos hg, hn]
    simp
  refine wc_cutR (X := Nat × Nat × Nat × Nat) (fun x => [(1, .pointer (some ⟨g1, 0, none⟩)), (2, .pointer (some ⟨g2, 0, none⟩)), (3, .pointer (some ⟨x.2.2.2, 0, none⟩))])
    (fun x W => Below w3.heap.size w3 W ∧ W.heap[x.2.2.2]? = some (.cells #[.int .i64 n, .slice (some ⟨x.1, 0, none⟩) (2 * n) (2 * n), .slice (some ⟨x.2.1, 0, none⟩) n n, .slice (some ⟨x.2.2.1, 0, none⟩) (2 * n) (2 * n)] 36 (0, 0)) ∧
      W.heap[x.1]? = some (.cells (List.replicate (2 * n) [Value.slice none 0 0]).flatten.toArray 31 (0, 0)) ∧ W.heap[x.2.1]? = some (.cells (List.replicate n [Value.slice none 0 0]).flatten.toArray 31 (0, 0)) ∧ W.heap[x.2.2.1]? = some (.cells (List.replicate (2 * n) [Value.bool false]).flatten.toArray 4 (0, 0)) ∧
      (w3.heap.size ≤ x.1 ∧ w3.heap.size ≤ x.2.1 ∧ w3.heap.size ≤ x.2.2.1 ∧ w3.heap.size ≤ x.2.2.2) ∧ x.1 ≠ x.2.1 ∧ x.1 ≠ x.2.2.1 ∧ x.1 ≠ x.2.2.2 ∧ x.2.1 ≠ x.2.2.1 ∧ x.2.1 ≠ x.2.2.2 ∧ x.2.2.1 ≠ x.2.2.2) ?_ ?_
  · refine wc_qx [0, 1, 2, 3, 4, 6, 7, 9, 10, 11] 5 15 (stable_Bw _) tabOk mixed (by kernel_rfl) (Below.refl _ _) ?_; (conv => whnf)
    (repeat' (first | (refine wq_Lg tabOk hb1 rfl rfl rfl rfl rfl rfl rfl (run_q tabOk ?_); conv => whnf) | ((first | refine wq_add rfl rfl rfl rfl rfl rfl (by omega) (by omega) (run_q tabOk ?_) | refine wq_sub rfl rfl rfl rfl rfl rfl (by omega) (by omega) (run_q tabOk ?_) | refine wq_cvA tabOk rfl rfl rfl (by simp only [inK]; omega) rfl rfl rfl (run_q tabOk ?_) | refine wq_cvB tabOk rfl rfl rfl rfl rfl rfl (run_q tabOk ?_) | refine wq_rem rfl rfl rfl rfl rfl rfl (by omega) (by omega) (fun r hr hr0 hr1 hr2 => run_q tabOk ?_) | refine wq_quo rfl rfl rfl rfl rfl rfl (by omega) (by omega) (by simp only [inK]; omega) (run_q tabOk ?_) | refine wq_mul rfl rfl rfl rfl rfl rfl (by omega) (by omega) (run_q tabOk ?_) | refine gs_dt (by first | assumption | omega) ?_ | refine gs_df (by first | assumption | omega) ?_ | refine gs_t (by assumption) ?_ | refine gs_f (by assumption) ?_ | refine gs_d (fun hg => ?_) (fun hg => ?_) | refine gs_n (fun hg => ?_) (fun hg => ?_) | refine gs_nb (fun hg => ?_) (fun hg => ?_) | refine gs_b (fun hg => ?_) (fun hg => ?_)) <;> conv => whnf)))
    intro w4 hC hB4
    clear hB4
    conv => whnf
    repeat' (first | exact True.intro | (refine And.intro ?_ ?_ <;> (conv => whnf)) | (refine wb_mk (m := 2 * n) tabOk 31 1 24 rfl rfl rfl rfl rfl rfl rfl rfl (by omega) (by omega) ?_; intro g5 v5 n5; (try (have d5_8 : g5 ≠ g8 := (by (have := blk_lt f8; have := n5.at_; omega)))); (try (have d5_12 : g5 ≠ g12 := (by (have := blk_lt f12; have := n5.at_; omega)))); (try (have d5_14 : g5 ≠ g14 := (by (have := blk_lt f14; have := n5.at_; omega)))); have b5 : w3.heap.size ≤ g5 := (by (have := n5.at_; have := hC.size; omega)); have f5 := n5.blk; refine ⟨bup hC n5.below, fun W hW hC => ?_⟩; have f5 := blk_up hW f5; (try (have f8 := blk_up (bup n5.below hW) f8)); (try (have f12 := blk_up (bup n5.below hW) f12)); (try (have f14 := blk_up (bup n5.below hW) f14)); clear hW n5; (conv => whnf)) | (refine wb_mk (m := n) tabOk 31 1 24 rfl rfl rfl rfl rfl rfl rfl rfl (by omega) (by omega) ?_; intro g8 v8 n8; (try (have d5_8 : g5 ≠ g8 := (by (have := blk_lt f5; have := n8.at_; omega)))); (try (have d8_12 : g8 ≠ g12 := (by (have := blk_lt f12; have := n8.at_; omega)))); (try (have d8_14 : g8 ≠ g14 := (by (have := blk_lt f14; have := n8.at_; omega)))); have b8 : w3.heap.size ≤ g8 := (by (have := n8.at_; have := hC.size; omega)); have f8 := n8.blk; refine ⟨bup hC n8.below, fun W hW hC => ?_⟩; have f8 := blk_up hW f8; (try (have f5 := blk_up (bup n8.below hW) f5)); (try (have f12 := blk_up (bup n8.below hW) f12)); (try (have f14 := blk_up (bup n8.below hW) f14)); clear hW n8; (conv => whnf)) | (refine wb_mk (m := 2 * n) tabOk 4 1 1 rfl rfl rfl rfl rfl rfl rfl rfl (by omega) (by omega) ?_; intro g12 v12 n12; (try (have d5_12 : g5 ≠ g12 := (by (have := blk_lt f5; have := n12.at_; omega)))); (try (have d8_12 : g8 ≠ g12 := (by (have := blk_lt f8; have := n12.at_; omega)))); (try (have d12_14 : g12 ≠ g14 := (by (have := blk_lt f14; have := n12.at_; omega)))); have b12 : w3.heap.size ≤ g12 := (by (have := n12.at_; have := hC.size; omega)); have f12 := n12.blk; refine ⟨bup hC n12.below, fun W hW hC => ?_⟩; have f12 := blk_up hW f12; (try (have f5 := blk_up (bup n12.below hW) f5)); (try (have f8 := blk_up (bup n12.below hW) f8)); (try (have f14 := blk_up (bup n12.below hW) f14)); clear hW n12; (conv => whnf)) | (refine wb_a (wa_alloc tabOk rfl rfl rfl rfl rfl ?_); intro g14 v14 n14; (try (have d5_14 : g5 ≠ g14 := (by (have := blk_lt f5; have := n14.at_; omega)))); (try (have d8_14 : g8 ≠ g14 := (by (have := blk_lt f8; have := n14.at_; omega)))); (try (have d12_14 : g12 ≠ g14 := (by (have := blk_lt f12; have := n14.at_; omega)))); have b14 : w3.heap.size ≤ g14 := (by (have := n14.at_; have := hC.size; omega)); have f14 := n14.blk; refine ⟨bup hC n14.below, fun W hW hC => ?_⟩; have f14 := blk_up hW f14; (try (have f5 := blk_up (bup n14.below hW) f5)); (try (have f8 := blk_up (bup n14.below hW) f8)); (try (have f12 := blk_up (bup n14.below hW) f12)); clear hW n14; (conv => whnf)) | (refine wb_P tabOk rfl rfl rfl ?_; refine ⟨hC, fun W hW hC => ?_⟩; (try (have f5 := blk_up (hW) f5)); (try (have f8 := blk_up (hW) f8)); (try (have f12 := blk_up (hW) f12)); (try (have f14 := blk_up (hW) f14)); clear hW; (conv => whnf)))
    all_goals
      refine wl_Sa tabOk f14 rfl rfl rfl rfl rfl (by simp [Value.oneCell']) rfl rfl ?_
      intro wz hz
      refine run_l tabOk ?_
      conv => whnf
      exact ⟨(g5, g8, g12, g14), ⟨rfl, rfl, rfl, trivial⟩, hz.below hC b14 hC.size, hz.blk, hz.old f5 d5_14, hz.old f8 d8_14, hz.old f12 d12_14, ⟨b5, b8, b12, b14⟩, d5_8, d5_12, d5_14, d8_12, d8_14, d12_14⟩
  rintro ⟨gI, gB, gL, g3⟩ G w4 ⟨hB4, hb3, hbI, hbB, hbL, hsz, hne⟩
  simp only at hB4 hb3 hbI hbB hbL hsz hne
  have l1 := blk_lt hb1
  have l2 := blk_lt hb2
  have hb1 := blk_up hB4 hb1
  have hb2 := blk_up hB4 hb2
  have hB := bup hB hB4
  conv => whnf
  refine wc_cutR (X := Unit) (fun x => [(1, .pointer (some ⟨g1, 0, none⟩)), (2, .pointer (some ⟨g2, 0, none⟩)), (3, .pointer (some ⟨g3, 0, none⟩))])
    (fun x W => ∃ v5, Below w4.heap.size w4 v5 ∧ Put v5 W gL (vb (looseB s ++ List.replicate n false)) 4) ?_ ?_
  · refine wc_qx [0, 1, 2] 1 4 (stable_Bw _) tabOk mixed (by kernel_rfl) (Below.refl _ _) ?_; (conv => whnf)
    (repeat' (first | (refine wq_Lg tabOk hb3 rfl rfl rfl rfl rfl rfl rfl (run_q tabOk ?_); conv => whnf) | (refine wq_Lag tabOk hb1 rfl rfl rfl rfl rfl rfl (run_q tabOk ?_); conv => whnf) | ((first | refine wq_add rfl rfl rfl rfl rfl rfl (by omega) (by omega) (run_q tabOk ?_) | refine wq_sub rfl rfl rfl rfl rfl rfl (by omega) (by omega) (run_q tabOk ?_) | refine wq_cvA tabOk rfl rfl rfl (by simp only [inK]; omega) rfl rfl rfl (run_q tabOk ?_) | refine wq_cvB tabOk rfl rfl rfl rfl rfl rfl (run_q tabOk ?_) | refine wq_rem rfl rfl rfl rfl rfl rfl (by omega) (by omega) (fun r hr hr0 hr1 hr2 => run_q tabOk ?_) | refine wq_quo rfl rfl rfl rfl rfl rfl (by omega) (by omega) (by simp only [inK]; omega) (run_q tabOk ?_) | refine wq_mul rfl rfl rfl rfl rfl rfl (by omega) (by omega) (run_q tabOk ?_) | refine gs_dt (by first | assumption | omega) ?_ | refine gs_df (by first | assumption | omega) ?_ | refine gs_t (by assumption) ?_ | refine gs_f (by assumption) ?_ | refine gs_d (fun hg => ?_) (fun hg => ?_) | refine gs_n (fun hg => ?_) (fun hg => ?_) | refine gs_nb (fun hg => ?_) (fun hg => ?_) | refine gs_b (fun hg => ?_) (fun hg => ?_)) <;> conv => whnf)))
    intro w5 hC hB5
    clear hB5
    conv => whnf
    refine ⟨?_, trivial⟩
    conv => whnf
    have hBw := bup hB hC
    have hcl := sysLoose s A1 A2 c1 c2 w5 (h1.up stays_Cell hBw) (h2.up stays_Con hBw) (by omega)
    rw [hn] at hcl
    simp only [Int.toNat_natCast] at hcl
    refine wb_C fn34 hcl rfl rfl rfl rfl rfl rfl ?_
    rintro _ w6 ⟨gS, rfl, hgS, hbS, hB6⟩
    refine ⟨_, rfl, bup hC hB6, fun W hW hC' => ?_⟩
    conv => whnf
    have hLn : (looseB s).length = n := by rw [looseB_len, hn]; simp
    have hlen : (vb (looseB s)).length = n := by rw [← hLn]; simp [vb]
    refine wl_copy tabOk 4 1 (vb (looseB s)) (blk_up hC' hbL) rfl rfl rfl rfl rfl rfl rfl rfl rfl rfl (by rw [hlen]; omega) (fun j v hv => ?_) (by rw [hlen]; simp; omega) (vb_one _) ?_
    · rw [add_zero]
      exact cell_blk (blk_up hW hbS) (by simpa using hv)
    intro wz hz
    refine run_l tabOk ?_
    conv => whnf
    refine ⟨(), ⟨rfl, rfl, rfl, trivial⟩, W, hC', ?_⟩
    have e : vb (looseB s) ++ ((List.replicate (2 * n) [Value.bool false]).flatten).drop (vb (looseB s)).length = vb (looseB s ++ List.replicate n false) := by
      rw [hlen]
      simp [vb]
      omega
    rw [← e]
    exact hz
  rintro _ G2 w5 ⟨v5, hB5, hp5⟩
  have hG : GI w w5 g1 g2 gI gB gL g3 [.int .i64 n, .slice A1 s.cells.length c1, .slice A2 s.cons.length c2] [.int .i64 0, .slice none 0 0, .slice none 0 0, .slice none 0 0]
      [.int .i64 n, .slice (some ⟨gI, 0, none⟩) (2 * n) (2 * n), .slice (some ⟨gB, 0, none⟩) n n, .slice (some ⟨gL, 0, none⟩) (2 * n) (2 * n)] (List.replicate (2 * n) (.slice none 0 0)) (List.replicate n (.slice none 0 0)) (List.replicate (2 * n) [], List.replicate n []) (looseB s ++ List.replicate n false) [] [] := by
    have hs3 := hB.size
    have hs4 := hB4.size
    refine ⟨hp5.below (bup hB hB5) (by have := blk_lt hbL; omega) (bup hB hB5).size, hp5.old (blk_up hB5 hb1) (by omega), hp5.old (blk_up hB5 hb2) (by omega), hp5.old (blk_up hB5 hb3) (fun e => hne.2.2.2.2.2 e.symm), hp5.blk, GMat.init (hp5.old (blk_up hB5 hbI) hne.2.1) (by omega), GMat.init (hp5.old (blk_up hB5 hbB) hne.2.2.2.1) (by omega), by simp, by simp, ⟨by omega, by omega, hne.2.2.1, hne.2.1, hne.1⟩, by omega, by omega, hne.2.2.2.2.1, hne.2.2.2.1⟩
  have hgL : w.heap.size ≤ gL ∧ gL ≠ g1 ∧ gL ≠ g2 ∧ gL ≠ g3 := ⟨by have := hB.size; omega, by omega, by omega, hne.2.2.2.2.2⟩
  have hLn : (looseB s).length = n := by rw [looseB_len, hn]; simp
  clear hp5 hB5 hb1 hb2 hb3 hbI hbB hbL hB4 hB hsz l1 l2
  conv => whnf
  (repeat' (first | (refine wl_Lg tabOk hG.b1 rfl rfl rfl rfl rfl rfl rfl (run_l tabOk ?_); conv => whnf) | ((first | refine wl_add rfl rfl rfl rfl rfl rfl (by omega) (by omega) (run_l tabOk ?_) | refine wl_sub rfl rfl rfl rfl rfl rfl (by omega) (by omega) (run_l tabOk ?_) | refine wl_cvA tabOk rfl rfl rfl (by simp only [inK]; omega) rfl rfl rfl (run_l tabOk ?_) | refine wl_cvB tabOk rfl rfl rfl rfl rfl rfl (run_l tabOk ?_) | refine wl_rem rfl rfl rfl rfl rfl rfl (by omega) (by omega) (fun r hr hr0 hr1 hr2 => run_l tabOk ?_) | refine wl_quo rfl rfl rfl rfl rfl rfl (by omega) (by omega) (by simp only [inK]; omega) (run_l tabOk ?_) | refine wl_mul rfl rfl rfl rfl rfl rfl (by omega) (by omega) (run_l tabOk ?_) | refine gs_dt (by first | assumption | omega) ?_ | refine gs_df (by first | assumption | omega) ?_ | refine gs_t (by assumption) ?_ | refine gs_f (by assumption) ?_ | refine gs_d (fun hg => ?_) (fun hg => ?_) | refine gs_n (fun hg => ?_) (fun hg => ?_) | refine gs_nb (fun hg => ?_) (fun hg => ?_) | refine gs_b (fun hg => ?_) (fun hg => ?_)) <;> conv => whnf) | refine fin1 rfl rfl ?_))
  refine lp_loop tabOk (X := Nat) (fun i => [(1, .pointer (some ⟨g1, 0, none⟩)), (2, .pointer (some ⟨g2, 0, none⟩)), (3, .pointer (some ⟨g3, 0, none⟩)), (31, .int .i64 n), (32, .int .i64 i)])
    (fun i wr => i ≤ n ∧ GI w wr g1 g2 gI gB gL g3 [.int .i64 n, .slice A1 s.cells.length c1, .slice A2 s.cons.length c2] [.int .i64 0, .slice none 0 0, .slice none 0 0, .slice none 0 0]
      [.int .i64 n, .slice (some ⟨gI, 0, none⟩) (2 * n) (2 * n), .slice (some ⟨gB, 0, none⟩) n n, .slice (some ⟨gL, 0, none⟩) (2 * n) (2 * n)] (List.replicate (2 * n) (.slice none 0 0)) (List.replicate n (.slice none 0 0)) (List.replicate (2 * n) [], List.replicate n []) (looseB s ++ List.replicate i true ++ List.replicate (n - i) false) [] []) (fun i => n - i) 0 ⟨rfl, rfl, rfl, rfl, rfl, trivial⟩ ⟨by omega, by simpa using hG⟩ ?_
  clear hG
  intro i G3 wr ⟨hi, hG⟩
  conv => whnf
  by_cases hlt : i < n
  · (repeat' (first | (refine wl_Lg tabOk hG.b3 rfl rfl rfl rfl rfl rfl rfl (run_l tabOk ?_); conv => whnf) | (refine wl_Lg tabOk hG.b1 rfl rfl rfl rfl rfl rfl rfl (run_l tabOk ?_); conv => whnf) | (refine wl_X tabOk 4 1 rfl rfl rfl rfl rfl rfl rfl (by omega) (by omega) (run_l tabOk ?_); conv => whnf) | ((first | refine wl_add rfl rfl rfl rfl rfl rfl (by omega) (by omega) (run_l tabOk ?_) | refine wl_sub rfl rfl rfl rfl rfl rfl (by omega) (by omega) (run_l tabOk ?_) | refine wl_cvA tabOk rfl rfl rfl (by simp only [inK]; omega) rfl rfl rfl (run_l tabOk ?_) | refine wl_cvB tabOk rfl rfl rfl rfl rfl rfl (run_l tabOk ?_) | refine wl_rem rfl rfl rfl rfl rfl rfl (by omega) (by omega) (fun r hr hr0 hr1 hr2 => run_l tabOk ?_) | refine wl_quo rfl rfl rfl rfl rfl rfl (by omega) (by omega) (by simp only [inK]; omega) (run_l tabOk ?_) | refine wl_mul rfl rfl rfl rfl rfl rfl (by omega) (by omega) (run_l tabOk ?_) | refine gs_dt (by first | assumption | omega) ?_ | refine gs_df (by first | assumption | omega) ?_ | refine gs_t (by assumption) ?_ | refine gs_f (by assumption) ?_ | refine gs_d (fun hg => ?_) (fun hg => ?_) | refine gs_n (fun hg => ?_) (fun hg => ?_) | refine gs_nb (fun hg => ?_) (fun hg => ?_) | refine gs_b (fun hg => ?_) (fun hg => ?_)) <;> conv => whnf) | refine fin1 rfl rfl ?_))
    refine wl_Se (j := ((n : Int) + (i : Int)).toNat * 1) (v := .bool true) tabOk hG.bL rfl rfl rfl rfl rfl rfl (by simp [vb, hLn]; omega) rfl rfl ?_
    intro w6 hp6
    have e1 : ((n : Int) + (i : Int)).toNat * 1 = n + i := by omega
    have e2 : (vb (looseB s ++ List.replicate i true ++ List.replicate (n - i) false)).set (((n : Int) + (i : Int)).toNat * 1) (.bool true) = vb (looseB s ++ List.replicate (i + 1) true ++ List.replicate (n - (i + 1)) false) := by
      rw [e1, show n - i = (n - (i + 1)) + 1 by omega, ← set_true, hLn]
      simp [vb, List.map_set]
    rw [e2] at hp6
    have hG6 := hG.putL hgL.1 hgL.2 hp6
    refine run_l tabOk ?_
    conv => whnf
    (repeat' (first | ((first | refine wl_add rfl rfl rfl rfl rfl rfl (by omega) (by omega) (run_l tabOk ?_) | refine wl_sub rfl rfl rfl rfl rfl rfl (by omega) (by omega) (run_l tabOk ?_) | refine wl_cvA tabOk rfl rfl rfl (by simp only [inK]; omega) rfl rfl rfl (run_l tabOk ?_) | refine wl_cvB tabOk rfl rfl rfl rfl rfl rfl (run_l tabOk ?_) | refine wl_rem rfl rfl rfl rfl rfl rfl (by omega) (by omega) (fun r hr hr0 hr1 hr2 => run_l tabOk ?_) | refine wl_quo rfl rfl rfl rfl rfl rfl (by omega) (by omega) (by simp only [inK]; omega) (run_l tabOk ?_) | refine wl_mul rfl rfl rfl rfl rfl rfl (by omega) (by omega) (run_l tabOk ?_) | refine gs_dt (by first | assumption | omega) ?_ | refine gs_df (by first | assumption | omega) ?_ | refine gs_t (by assumption) ?_ | refine gs_f (by assumption) ?_ | refine gs_d (fun hg => ?_) (fun hg => ?_) | refine gs_n (fun hg => ?_) (fun hg => ?_) | refine gs_nb (fun hg => ?_) (fun hg => ?_) | refine gs_b (fun hg => ?_) (fun hg => ?_)) <;> conv => whnf) | refine fin1 rfl rfl ?_))
    exact ⟨i + 1, ⟨rfl, rfl, rfl, rfl, rfl, trivial⟩, ⟨by omega, hG6⟩, by omega⟩
  · have hin : i = n := by omega
    subst hin
    have e3 : looseB s ++ List.replicate i true ++ List.replicate (i - i) false = looseB s ++ List.replicate i true := by simp
    rw [e3] at hG
    (repeat' (first | (refine wl_Lg tabOk hG.b1 rfl rfl rfl rfl rfl rfl rfl (run_l tabOk ?_); conv => whnf) | ((first | refine wl_add rfl rfl rfl rfl rfl rfl (by omega) (by omega) (run_l tabOk ?_) | refine wl_sub rfl rfl rfl rfl rfl rfl (by omega) (by omega) (run_l tabOk ?_) | refine wl_cvA tabOk rfl rfl rfl (by simp only [inK]; omega) rfl rfl rfl (run_l tabOk ?_) | refine wl_cvB tabOk rfl rfl rfl rfl rfl rfl (run_l tabOk ?_) | refine wl_rem rfl rfl rfl rfl rfl rfl (by omega) (by omega) (fun r hr hr0 hr1 hr2 => run_l tabOk ?_) | refine wl_quo rfl rfl rfl rfl rfl rfl (by omega) (by omega) (by simp only [inK]; omega) (run_l tabOk ?_) | refine wl_mul rfl rfl rfl rfl rfl rfl (by omega) (by omega) (run_l tabOk ?_) | refine gs_dt (by first | assumption | omega) ?_ | refine gs_df (by first | assumption | omega) ?_ | refine gs_t (by assumption) ?_ | refine gs_f (by assumption) ?_ | refine gs_d (fun hg => ?_) (fun hg => ?_) | refine gs_n (fun hg => ?_) (fun hg => ?_) | refine gs_nb (fun hg => ?_) (fun hg => ?_) | refine gs_b (fun hg => ?_) (fun hg => ?_)) <;> conv => whnf) | refine fin1 rfl rfl ?_))
    refine lp_loop tabOk (X := Nat) (fun j => [(1, .pointer (some ⟨g1, 0, none⟩)), (2, .pointer (some ⟨g2, 0, none⟩)), (3, .pointer (some ⟨g3, 0, none⟩)), (44, .slice A2 s.cons.length c2), (45, .int .i64 s.cons.length), (46, .int .i64 j)])
      (fun j wj => j ≤ s.cons.length ∧ ∃ vI vB bI bB, GI w wj g1 g2 gI gB gL g3 [.int .i64 i, .slice A1 s.cells.length c1, .slice A2 s.cons.length c2] [.int .i64 0, .slice none 0 0, .slice none 0 0, .slice none 0 0]
      [.int .i64 i, .slice (some ⟨gI, 0, none⟩) (2 * i) (2 * i), .slice (some ⟨gB, 0, none⟩) i i, .slice (some ⟨gL, 0, none⟩) (2 * i) (2 * i)] vI vB ((s.cons.take j).foldl (gstep s.vars) (List.replicate (2 * i) [], List.replicate i [])) (looseB s ++ List.replicate i true) bI bB) (fun j => s.cons.length - j) 0 ⟨rfl, rfl, rfl, rfl, rfl, rfl, trivial⟩ ⟨by omega, _, _, _, _, hG⟩ ?_
    clear hG
    intro j G4 wj ⟨hj, vI, vB, bI, bB, hG⟩
    conv => whnf
    by_cases hjl : j < s.cons.length
    · have hgd := hgood j hjl
      obtain ⟨x, ad, D0, dc0, hx, rfl, e0, hc0, e4, hk0, hk255, hra, hrb⟩ := consE (h2.up stays_Con hG.below) j hjl
      rw [hx.out] at hgd
      have hgd' : 1 ≤ x.k ∧ x.k ≤ 5 := by
        simp only [conOk, Bool.and_eq_true, decide_eq_true_eq] at hgd
        exact ⟨hgd.1.1.1.1.1.1, hgd.1.1.1.1.1.2⟩
      have hga : x.k < 5 → 0 ≤ x.a ∧ x.a < i := fun hk => by
        simp only [conOk, Bool.and_eq_true, decide_eq_true_eq, inR] at hgd
        have := hgd.1.1.1.1.2
        rw [if_neg (by omega), hn] at this
        exact this
      have hgb : x.k ≤ 5 → 0 ≤ x.b := fun hk => by
        simp only [conOk, Bool.and_eq_true, decide_eq_true_eq, inR] at hgd
        exact hgd.1.1.1.2.1
      have hgb3 : x.k = 3 → x.b < i := fun hk => by
        simp only [conOk, Bool.and_eq_true, decide_eq_true_eq, inR] at hgd
        have := hgd.1.1.1.2.2
        rw [if_neg (by omega), hn] at this
        exact this
      have hsmall := gfold_small s.vars (m := 0) (s.cons.take j) (List.replicate (2 * i) [], List.replicate i []) (fun l hl => by rw [getElem!_pos _ l hl]; simp) (fun l hl => by rw [getElem!_pos _ l hl]; simp)
      have hplen := gfold_len s.vars (s.cons.take j) (List.replicate (2 * i) [], List.replicate i [])
      obtain ⟨p, hp⟩ : ∃ p, p = (s.cons.take j).foldl (gstep s.vars) (List.replicate (2 * i) [], List.replicate i []) := ⟨_, rfl⟩
      rw [← hp] at hG hsmall hplen
      simp only [List.length_replicate, List.length_take] at hsmall hplen
      (repeat' (first | (refine wl_Xn tabOk 46 4 rfl rfl rfl rfl rfl rfl rfl (by omega) (run_l tabOk ?_); conv => whnf) | (refine wl_La tabOk e0 rfl rfl rfl rfl rfl rfl (run_l tabOk ?_); conv => whnf) | ((first | refine wl_add rfl rfl rfl rfl rfl rfl (by omega) (by omega) (run_l tabOk ?_) | refine wl_sub rfl rfl rfl rfl rfl rfl (by omega) (by omega) (run_l tabOk ?_) | refine wl_cvA tabOk rfl rfl rfl (by simp only [inK]; omega) rfl rfl rfl (run_l tabOk ?_) | refine wl_cvB tabOk rfl rfl rfl rfl rfl rfl (run_l tabOk ?_) | refine wl_rem rfl rfl rfl rfl rfl rfl (by omega) (by omega) (fun r hr hr0 hr1 hr2 => run_l tabOk ?_) | refine wl_quo rfl rfl rfl rfl rfl rfl (by omega) (by omega) (by simp only [inK]; omega) (run_l tabOk ?_) | refine wl_mul rfl rfl rfl rfl rfl rfl (by omega) (by omega) (run_l tabOk ?_) | refine gs_dt (by first | assumption | omega) ?_ | refine gs_df (by first | assumption | omega) ?_ | refine gs_t (by assumption) ?_ | refine gs_f (by assumption) ?_ | refine gs_d (fun hg => ?_) (fun hg => ?_) | refine gs_n (fun hg => ?_) (fun hg => ?_) | refine gs_nb (fun hg => ?_) (fun hg => ?_) | refine gs_b (fun hg => ?_) (fun hg => ?_)) <;> conv => whnf) | refine fin1 rfl rfl ?_))
      refine wl_alloc tabOk rfl rfl rfl rfl rfl rfl ?_
      intro g6 w6 hn6
      refine wl_Sa tabOk hn6.blk rfl rfl rfl rfl rfl (by simp [Value.oneCell']) rfl rfl ?_
      intro w7 hp7
      have hB7 : Below wj.heap.size wj w7 := hp7.below hn6.below (by have := hn6.at_; omega) (by have := hn6.size; omega)
      have hb6 := hp7.blk
      have hG7 := hG.up hB7
      refine run_l tabOk ?_
      conv => whnf
      (repeat' (first | (refine wl_Lg tabOk hb6 rfl rfl rfl rfl rfl rfl rfl (run_l tabOk ?_); conv => whnf) | ((first | refine wl_add rfl rfl rfl rfl rfl rfl (by omega) (by omega) (run_l tabOk ?_) | refine wl_sub rfl rfl rfl rfl rfl rfl (by omega) (by omega) (run_l tabOk ?_) | refine wl_cvA tabOk rfl rfl rfl (by simp only [inK]; omega) rfl rfl rfl (run_l tabOk ?_) | refine wl_cvB tabOk rfl rfl rfl rfl rfl rfl (run_l tabOk ?_) | refine wl_rem rfl rfl rfl rfl rfl rfl (by omega) (by omega) (fun r hr hr0 hr1 hr2 => run_l tabOk ?_) | refine wl_quo rfl rfl rfl rfl rfl rfl (by omega) (by omega) (by simp only [inK]; omega) (run_l tabOk ?_) | refine wl_mul rfl rfl rfl rfl rfl rfl (by omega) (by omega) (run_l tabOk ?_) | refine gs_dt (by first | assumption | omega) ?_ | refine gs_df (by first | assumption | omega) ?_ | refine gs_t (by assumption) ?_ | refine gs_f (by assumption) ?_ | refine gs_d (fun hg => ?_) (fun hg => ?_) | refine gs_n (fun hg => ?_) (fun hg => ?_) | refine gs_nb (fun hg => ?_) (fun hg => ?_) | refine gs_b (fun hg => ?_) (fun hg => ?_)) <;> conv => whnf) | refine fin1 rfl rfl ?_))
      · have hi : x.a.toNat < p.2.length := by omega
        have hsm := hsmall.2 x.a.toNat (by omega)
        obtain ⟨⟨flat, hown, hel⟩, hlt', hne'⟩ := (hG7.mB.row x.a.toNat hi).1
        have hob' : ∀ b, vB[x.a.toNat]!.ownBlock = some b → b ∈ bB := (hG7.mB.row x.a.toNat hi).2
        have kp : ∀ (k : Nat) (o : Obj), w7.heap[k]? = some o → k ∉ bB → ∀ w', Gw w7 vB[x.a.toNat]!.ownBlock w' → w'.heap[k]? = some o := fun k o hk hkn w' hw' => (hw'.block k (blk_lt hk) (fun e => hkn (hob' k e.symm))).trans hk
        have hk3 := kp g3 _ hG7.b3 (fun hm => (hG7.fix g3 (.inr hm)).2.2.1 rfl)
        have hk1 := kp g1 _ hG7.b1 (fun hm => (hG7.fix g1 (.inr hm)).1 rfl)
        have hk6 := kp g6 _ hb6 (fun hm => by have := (hG.mB.lt g6 hm).2; have := hn6.at_; omega)
        have hkM := kp gB _ hG7.mB.blk hG7.mB.gb
        have hkc : ∀ w', Gw w7 vB[x.a.toNat]!.ownBlock w' → w'.cell? ((⟨gB, 0, none⟩ : Addr).add (x.a.toNat * 1)) = some vB[x.a.toNat]! := fun w' hw' => hG7.mB.cellC hi ((hkM w' hw').trans hG7.mB.blk.symm)
        refine wc_qx [0, 1, 2, 3, 4, 5, 6, 7, 8, 9, 10, 11] 2 14 (stable_Gw _ (vB[x.a.toNat]!.ownBlock)) tabOk mixed (by kernel_rfl) (grown_refl _ _) ?_; (conv => whnf)
        (repeat' (first | (refine wq_LgC tabOk hk3 rfl rfl rfl rfl rfl rfl rfl (run_q tabOk ?_); conv => whnf) | (refine wq_LgC tabOk hk6 rfl rfl rfl rfl rfl rfl rfl (run_q tabOk ?_); conv => whnf) | (refine wq_LgC tabOk hk1 rfl rfl rfl rfl rfl rfl rfl (run_q tabOk ?_); conv => whnf) | (refine wq_LC tabOk hkc rfl rfl rfl rfl rfl rfl (run_q tabOk ?_); conv => whnf) | (refine wq_X tabOk 31 1 rfl rfl rfl rfl rfl rfl rfl (by omega) (by omega) (run_q tabOk ?_); conv => whnf) | ((first | refine wq_add rfl rfl rfl rfl rfl rfl (by omega) (by omega) (run_q tabOk ?_) | refine wq_sub rfl rfl rfl rfl rfl rfl (by omega) (by omega) (run_q tabOk ?_) | refine wq_cvA tabOk rfl rfl rfl (by simp only [inK]; omega) rfl rfl rfl (run_q tabOk ?_) | refine wq_cvB tabOk rfl rfl rfl rfl rfl rfl (run_q tabOk ?_) | refine wq_rem rfl rfl rfl rfl rfl rfl (by omega) (by omega) (fun r hr hr0 hr1 hr2 => run_q tabOk ?_) | refine wq_quo rfl rfl rfl rfl rfl rfl (by omega) (by omega) (by simp only [inK]; omega) (run_q tabOk ?_) | refine wq_mul rfl rfl rfl rfl rfl rfl (by omega) (by omega) (run_q tabOk ?_) | refine gs_dt (by first | assumption | omega) ?_ | refine gs_df (by first | assumption | omega) ?_ | refine gs_t (by assumption) ?_ | refine gs_f (by assumption) ?_ | refine gs_d (fun hg => ?_) (fun hg => ?_) | refine gs_n (fun hg => ?_) (fun hg => ?_) | refine gs_nb (fun hg => ?_) (fun hg => ?_) | refine gs_b (fun hg => ?_) (fun hg => ?_)) <;> conv => whnf)))
        intro u1 hu1 hbu1
        conv => whnf
        refine ⟨?_, trivial⟩
        conv => whnf
        refine wb_a (wa_bs tabOk 3 1 rfl rfl rfl rfl rfl rfl rfl rfl rfl ?_)
        intro gn u2 hn2
        refine ⟨grown_trans hu1 (grown_of hn2.below), fun u3 hbu3 hu3 => ?_⟩
        conv => whnf
        refine ⟨?_, trivial⟩
        conv => whnf
        have hB73 := bup hbu1 (bup hn2.below hbu3)
        have hown3 := hown.kept (grown_of hB73) (Classical.em _)
        refine wb_a (wa_ap tabOk 3 1 8 hown3 (blk_up hbu3 hn2.blk) rfl rfl rfl rfl rfl rfl rfl rfl rfl rfl (by simp) (by simp [Value.oneCell']) (by omega) (by omega) (by have := hG7.below.size; have := hB73.size; omega) ?_)
        intro D dc u4 hown4 hgr4 hob4
        refine ⟨grown_trans hu3 hgr4, fun u5 hbu5 hu5 => ?_⟩
        conv => whnf
        (repeat' (first | (refine wl_X tabOk 31 1 rfl rfl rfl rfl rfl rfl rfl (by omega) (by omega) (run_l tabOk ?_); conv => whnf) | ((first | refine wl_add rfl rfl rfl rfl rfl rfl (by omega) (by omega) (run_l tabOk ?_) | refine wl_sub rfl rfl rfl rfl rfl rfl (by omega) (by omega) (run_l tabOk ?_) | refine wl_cvA tabOk rfl rfl rfl (by simp only [inK]; omega) rfl rfl rfl (run_l tabOk ?_) | refine wl_cvB tabOk rfl rfl rfl rfl rfl rfl (run_l tabOk ?_) | refine wl_rem rfl rfl rfl rfl rfl rfl (by omega) (by omega) (fun r hr hr0 hr1 hr2 => run_l tabOk ?_) | refine wl_quo rfl rfl rfl rfl rfl rfl (by omega) (by omega) (by simp only [inK]; omega) (run_l tabOk ?_) | refine wl_mul rfl rfl rfl rfl rfl rfl (by omega) (by omega) (run_l tabOk ?_) | refine gs_dt (by first | assumption | omega) ?_ | refine gs_df (by first | assumption | omega) ?_ | refine gs_t (by assumption) ?_ | refine gs_f (by assumption) ?_ | refine gs_d (fun hg => ?_) (fun hg => ?_) | refine gs_n (fun hg => ?_) (fun hg => ?_) | refine gs_nb (fun hg => ?_) (fun hg => ?_) | refine gs_b (fun hg => ?_) (fun hg => ?_)) <;> conv => whnf) | refine fin1 rfl rfl ?_))
        obtain ⟨v8, hv8⟩ : ∃ v8, v8 = Value.slice D (p.2[x.a.toNat]!.length + 1) dc := ⟨_, rfl⟩
        have hrow3 : GInts w.heap.size u3 vB[x.a.toNat]! p.2[x.a.toNat]! := (hG7.mB.row x.a.toNat hi).1.below hB73
        have hrow4 := (gints_push hrow3 (fun w' _ => ⟨(hel w7 (fun _ _ => rfl)).1, (hel w7 (fun _ _ => rfl)).2⟩) hown4 hgr4 hob4 (y := x.b) (by omega)).below hbu5
        have hgr5 : w7.grownBy u5 vB[x.a.toNat]!.ownBlock := hu5
        have hob5 : (Value.slice D (p.2[x.a.toNat]!.length + 1) dc).ownBlock = vB[x.a.toNat]!.ownBlock ∨ ∃ b, (Value.slice D (p.2[x.a.toNat]!.length + 1) dc).ownBlock = some b ∧ w7.heap.size ≤ b := hob4.imp id fun e => ⟨_, e, hB73.size⟩
        rw [← hv8] at hrow4 hob5
        refine wl_Se (j := x.a.toNat * 1) (v := v8) tabOk (hkM u5 hu5) rfl rfl (by rw [hv8]; rfl) rfl rfl (by rw [hv8]; rfl) (by rw [hG7.mB.len]; omega) rfl rfl ?_
        intro u6 hp6
        rw [Nat.mul_one] at hp6
        have hG8 := hG7.addB hi hrow4 hgr5 hob5 hp6
        refine run_l tabOk ?_
        conv => whnf
        (repeat' (first | ((first | refine wl_add rfl rfl rfl rfl rfl rfl (by omega) (by omega) (run_l tabOk ?_) | refine wl_sub rfl rfl rfl rfl rfl rfl (by omega) (by omega) (run_l tabOk ?_) | refine wl_cvA tabOk rfl rfl rfl (by simp only [inK]; omega) rfl rfl rfl (run_l tabOk ?_) | refine wl_cvB tabOk rfl rfl rfl rfl rfl rfl (run_l tabOk ?_) | refine wl_rem rfl rfl rfl rfl rfl rfl (by omega) (by omega) (fun r hr hr0 hr1 hr2 => run_l tabOk ?_) | refine wl_quo rfl rfl rfl rfl rfl rfl (by omega) (by omega) (by simp only [inK]; omega) (run_l tabOk ?_) | refine wl_mul rfl rfl rfl rfl rfl rfl (by omega) (by omega) (run_l tabOk ?_) | refine gs_dt (by first | assumption | omega) ?_ | refine gs_df (by first | assumption | omega) ?_ | refine gs_t (by assumption) ?_ | refine gs_f (by assumption) ?_ | refine gs_d (fun hg => ?_) (fun hg => ?_) | refine gs_n (fun hg => ?_) (fun hg => ?_) | refine gs_nb (fun hg => ?_) (fun hg => ?_) | refine gs_b (fun hg => ?_) (fun hg => ?_)) <;> conv => whnf) | refine fin1 rfl rfl ?_))
        exact ⟨j + 1, ⟨rfl, rfl, rfl, rfl, rfl, rfl, trivial⟩, ⟨by omega, _, _, _, _, by rw [fold_take _ _ hjl, hx.out, ← hp]; simp only [gstep, addAt]; simp only [hg, hn, if_true]; exact hG8⟩, by omega⟩
      · have hi : x.a.toNat < p.1.length := by omega
        have hsm := hsmall.1 x.a.toNat (by omega)
        obtain ⟨⟨flat, hown, hel⟩, hlt', hne'⟩ := (hG7.mI.row x.a.toNat hi).1
        have hob' : ∀ b, vI[x.a.toNat]!.ownBlock = some b → b ∈ bI := (hG7.mI.row x.a.toNat hi).2
        have kp : ∀ (k : Nat) (o : Obj), w7.heap[k]? = some o → k ∉ bI → ∀ w', Gw w7 vI[x.a.toNat]!.ownBlock w' → w'.heap[k]? = some o := fun k o hk hkn w' hw' => (hw'.block k (blk_lt hk) (fun e => hkn (hob' k e.symm))).trans hk
        have hk3 := kp g3 _ hG7.b3 (fun hm => (hG7.fix g3 (.inl hm)).2.2.1 rfl)
        have hk1 := kp g1 _ hG7.b1 (fun hm => (hG7.fix g1 (.inl hm)).1 rfl)
        have hk6 := kp g6 _ hb6 (fun hm => by have := (hG.mI.lt g6 hm).2; have := hn6.at_; omega)
        have hkM := kp gI _ hG7.mI.blk hG7.mI.gb
        have hkc : ∀ w', Gw w7 vI[x.a.toNat]!.ownBlock w' → w'.cell? ((⟨gI, 0, none⟩ : Addr).add (x.a.toNat * 1)) = some vI[x.a.toNat]! := fun w' hw' => hG7.mI.cellC hi ((hkM w' hw').trans hG7.mI.blk.symm)
        refine wc_qx [0, 1, 2, 3, 4, 5, 6, 7, 8, 9, 10, 11] 2 14 (stable_Gw _ (vI[x.a.toNat]!.ownBlock)) tabOk mixed (by kernel_rfl) (grown_refl _ _) ?_; (conv => whnf)
        (repeat' (first | (refine wq_LgC tabOk hk3 rfl rfl rfl rfl rfl rfl rfl (run_q tabOk ?_); conv => whnf) | (refine wq_LgC tabOk hk6 rfl rfl rfl rfl rfl rfl rfl (run_q tabOk ?_); conv => whnf) | (refine wq_LgC tabOk hk1 rfl rfl rfl rfl rfl rfl rfl (run_q tabOk ?_); conv => whnf) | (refine wq_LC tabOk hkc rfl rfl rfl rfl rfl rfl (run_q tabOk ?_); conv => whnf) | (refine wq_X tabOk 31 1 rfl rfl rfl rfl rfl rfl rfl (by omega) (by omega) (run_q tabOk ?_); conv => whnf) | ((first | refine wq_add rfl rfl rfl rfl rfl rfl (by omega) (by omega) (run_q tabOk ?_) | refine wq_sub rfl rfl rfl rfl rfl rfl (by omega) (by omega) (run_q tabOk ?_) | refine wq_cvA tabOk rfl rfl rfl (by simp only [inK]; omega) rfl rfl rfl (run_q tabOk ?_) | refine wq_cvB tabOk rfl rfl rfl rfl rfl rfl (run_q tabOk ?_) | refine wq_rem rfl rfl rfl rfl rfl rfl (by omega) (by omega) (fun r hr hr0 hr1 hr2 => run_q tabOk ?_) | refine wq_quo rfl rfl rfl rfl rfl rfl (by omega) (by omega) (by simp only [inK]; omega) (run_q tabOk ?_) | refine wq_mul rfl rfl rfl rfl rfl rfl (by omega) (by omega) (run_q tabOk ?_) | refine gs_dt (by first | assumption | omega) ?_ | refine gs_df (by first | assumption | omega) ?_ | refine gs_t (by assumption) ?_ | refine gs_f (by assumption) ?_ | refine gs_d (fun hg => ?_) (fun hg => ?_) | refine gs_n (fun hg => ?_) (fun hg => ?_) | refine gs_nb (fun hg => ?_) (fun hg => ?_) | refine gs_b (fun hg => ?_) (fun hg => ?_)) <;> conv => whnf)))
        intro u1 hu1 hbu1
        conv => whnf
        refine ⟨?_, trivial⟩
        conv => whnf
        refine wb_a (wa_bs tabOk 3 1 rfl rfl rfl rfl rfl rfl rfl rfl rfl ?_)
        intro gn u2 hn2
        refine ⟨grown_trans hu1 (grown_of hn2.below), fun u3 hbu3 hu3 => ?_⟩
        conv => whnf
        refine ⟨?_, trivial⟩
        conv => whnf
        have hB73 := bup hbu1 (bup hn2.below hbu3)
        have hown3 := hown.kept (grown_of hB73) (Classical.em _)
        refine wb_a (wa_ap tabOk 3 1 8 hown3 (blk_up hbu3 hn2.blk) rfl rfl rfl rfl rfl rfl rfl rfl rfl rfl (by simp) (by simp [Value.oneCell']) (by omega) (by omega) (by have := hG7.below.size; have := hB73.size; omega) ?_)
        intro D dc u4 hown4 hgr4 hob4
        refine ⟨grown_trans hu3 hgr4, fun u5 hbu5 hu5 => ?_⟩
        conv => whnf
        (repeat' (first | (refine wl_X tabOk 31 1 rfl rfl rfl rfl rfl rfl rfl (by omega) (by omega) (run_l tabOk ?_); conv => whnf) | ((first | refine wl_add rfl rfl rfl rfl rfl rfl (by omega) (by omega) (run_l tabOk ?_) | refine wl_sub rfl rfl rfl rfl rfl rfl (by omega) (by omega) (run_l tabOk ?_) | refine wl_cvA tabOk rfl rfl rfl (by simp only [inK]; omega) rfl rfl rfl (run_l tabOk ?_) | refine wl_cvB tabOk rfl rfl rfl rfl rfl rfl (run_l tabOk ?_) | refine wl_rem rfl rfl rfl rfl rfl rfl (by omega) (by omega) (fun r hr hr0 hr1 hr2 => run_l tabOk ?_) | refine wl_quo rfl rfl rfl rfl rfl rfl (by omega) (by omega) (by simp only [inK]; omega) (run_l tabOk ?_) | refine wl_mul rfl rfl rfl rfl rfl rfl (by omega) (by omega) (run_l tabOk ?_) | refine gs_dt (by first | assumption | omega) ?_ | refine gs_df (by first | assumption | omega) ?_ | refine gs_t (by assumption) ?_ | refine gs_f (by assumption) ?_ | refine gs_d (fun hg => ?_) (fun hg => ?_) | refine gs_n (fun hg => ?_) (fun hg => ?_) | refine gs_nb (fun hg => ?_) (fun hg => ?_) | refine gs_b (fun hg => ?_) (fun hg => ?_)) <;> conv => whnf) | refine fin1 rfl rfl ?_))
        obtain ⟨v8, hv8⟩ : ∃ v8, v8 = Value.slice D (p.1[x.a.toNat]!.length + 1) dc := ⟨_, rfl⟩
        have hrow3 : GInts w.heap.size u3 vI[x.a.toNat]! p.1[x.a.toNat]! := (hG7.mI.row x.a.toNat hi).1.below hB73
        have hrow4 := (gints_push hrow3 (fun w' _ => ⟨(hel w7 (fun _ _ => rfl)).1, (hel w7 (fun _ _ => rfl)).2⟩) hown4 hgr4 hob4 (y := x.b) (by omega)).below hbu5
        have hgr5 : w7.grownBy u5 vI[x.a.toNat]!.ownBlock := hu5
        have hob5 : (Value.slice D (p.1[x.a.toNat]!.length + 1) dc).ownBlock = vI[x.a.toNat]!.ownBlock ∨ ∃ b, (Value.slice D (p.1[x.a.toNat]!.length + 1) dc).ownBlock = some b ∧ w7.heap.size ≤ b := hob4.imp id fun e => ⟨_, e, hB73.size⟩
        rw [← hv8] at hrow4 hob5
        refine wl_Se (j := x.a.toNat * 1) (v := v8) tabOk (hkM u5 hu5) rfl rfl (by rw [hv8]; rfl) rfl rfl (by rw [hv8]; rfl) (by rw [hG7.mI.len]; omega) rfl rfl ?_
        intro u6 hp6
        rw [Nat.mul_one] at hp6
        have hG8 := hG7.addI hi hrow4 hgr5 hob5 hp6
        refine run_l tabOk ?_
        conv => whnf
        (repeat' (first | ((first | refine wl_add rfl rfl rfl rfl rfl rfl (by omega) (by omega) (run_l tabOk ?_) | refine wl_sub rfl rfl rfl rfl rfl rfl (by omega) (by omega) (run_l tabOk ?_) | refine wl_cvA tabOk rfl rfl rfl (by simp only [inK]; omega) rfl rfl rfl (run_l tabOk ?_) | refine wl_cvB tabOk rfl rfl rfl rfl rfl rfl (run_l tabOk ?_) | refine wl_rem rfl rfl rfl rfl rfl rfl (by omega) (by omega) (fun r hr hr0 hr1 hr2 => run_l tabOk ?_) | refine wl_quo rfl rfl rfl rfl rfl rfl (by omega) (by omega) (by simp only [inK]; omega) (run_l tabOk ?_) | refine wl_mul rfl rfl rfl rfl rfl rfl (by omega) (by omega) (run_l tabOk ?_) | refine gs_dt (by first | assumption | omega) ?_ | refine gs_df (by first | assumption | omega) ?_ | refine gs_t (by assumption) ?_ | refine gs_f (by assumption) ?_ | refine gs_d (fun hg => ?_) (fun hg => ?_) | refine gs_n (fun hg => ?_) (fun hg => ?_) | refine gs_nb (fun hg => ?_) (fun hg => ?_) | refine gs_b (fun hg => ?_) (fun hg => ?_)) <;> conv => whnf) | refine fin1 rfl rfl ?_))
        exact ⟨j + 1, ⟨rfl, rfl, rfl, rfl, rfl, rfl, trivial⟩, ⟨by omega, _, _, _, _, by rw [fold_take _ _ hjl, hx.out, ← hp]; simp only [gstep, addAt]; simp only [hg, hn, if_true]; exact hG8⟩, by omega⟩
      · have hi : x.a.toNat < p.1.length := by omega
        have hsm := hsmall.1 x.a.toNat (by omega)
        obtain ⟨⟨flat, hown, hel⟩, hlt', hne'⟩ := (hG7.mI.row x.a.toNat hi).1
        have hob' : ∀ b, vI[x.a.toNat]!.ownBlock = some b → b ∈ bI := (hG7.mI.row x.a.toNat hi).2
        have kp : ∀ (k : Nat) (o : Obj), w7.heap[k]? = some o → k ∉ bI → ∀ w', Gw w7 vI[x.a.toNat]!.ownBlock w' → w'.heap[k]? = some o := fun k o hk hkn w' hw' => (hw'.block k (blk_lt hk) (fun e => hkn (hob' k e.symm))).trans hk
        have hk3 := kp g3 _ hG7.b3 (fun hm => (hG7.fix g3 (.inl hm)).2.2.1 rfl)
        have hk1 := kp g1 _ hG7.b1 (fun hm => (hG7.fix g1 (.inl hm)).1 rfl)
        have hk6 := kp g6 _ hb6 (fun hm => by have := (hG.mI.lt g6 hm).2; have := hn6.at_; omega)
        have hkM := kp gI _ hG7.mI.blk hG7.mI.gb
        have hkc : ∀ w', Gw w7 vI[x.a.toNat]!.ownBlock w' → w'.cell? ((⟨gI, 0, none⟩ : Addr).add (x.a.toNat * 1)) = some vI[x.a.toNat]! := fun w' hw' => hG7.mI.cellC hi ((hkM w' hw').trans hG7.mI.blk.symm)
        refine wc_qx [0, 1, 2, 3, 4, 5, 6, 7, 8, 9, 10, 11, 12, 13, 14] 2 17 (stable_Gw _ (vI[x.a.toNat]!.ownBlock)) tabOk mixed (by kernel_rfl) (grown_refl _ _) ?_; (conv => whnf)
        (repeat' (first | (refine wq_LgC tabOk hk3 rfl rfl rfl rfl rfl rfl rfl (run_q tabOk ?_); conv => whnf) | (refine wq_LgC tabOk hk6 rfl rfl rfl rfl rfl rfl rfl (run_q tabOk ?_); conv => whnf) | (refine wq_LgC tabOk hk1 rfl rfl rfl rfl rfl rfl rfl (run_q tabOk ?_); conv => whnf) | (refine wq_LC tabOk hkc rfl rfl rfl rfl rfl rfl (run_q tabOk ?_); conv => whnf) | (refine wq_X tabOk 31 1 rfl rfl rfl rfl rfl rfl rfl (by omega) (by omega) (run_q tabOk ?_); conv => whnf) | ((first | refine wq_add rfl rfl rfl rfl rfl rfl (by omega) (by omega) (run_q tabOk ?_) | refine wq_sub rfl rfl rfl rfl rfl rfl (by omega) (by omega) (run_q tabOk ?_) | refine wq_cvA tabOk rfl rfl rfl (by simp only [inK]; omega) rfl rfl rfl (run_q tabOk ?_) | refine wq_cvB tabOk rfl rfl rfl rfl rfl rfl (run_q tabOk ?_) | refine wq_rem rfl rfl rfl rfl rfl rfl (by omega) (by omega) (fun r hr hr0 hr1 hr2 => run_q tabOk ?_) | refine wq_quo rfl rfl rfl rfl rfl rfl (by omega) (by omega) (by simp only [inK]; omega) (run_q tabOk ?_) | refine wq_mul rfl rfl rfl rfl rfl rfl (by omega) (by omega) (run_q tabOk ?_) | refine gs_dt (by first | assumption | omega) ?_ | refine gs_df (by first | assumption | omega) ?_ | refine gs_t (by assumption) ?_ | refine gs_f (by assumption) ?_ | refine gs_d (fun hg => ?_) (fun hg => ?_) | refine gs_n (fun hg => ?_) (fun hg => ?_) | refine gs_nb (fun hg => ?_) (fun hg => ?_) | refine gs_b (fun hg => ?_) (fun hg => ?_)) <;> conv => whnf)))
        intro u1 hu1 hbu1
        conv => whnf
        refine ⟨?_, trivial⟩
        conv => whnf
        refine wb_a (wa_bs tabOk 3 1 rfl rfl rfl rfl rfl rfl rfl rfl rfl ?_)
        intro gn u2 hn2
        refine ⟨grown_trans hu1 (grown_of hn2.below), fun u3 hbu3 hu3 => ?_⟩
        conv => whnf
        refine ⟨?_, trivial⟩
        conv => whnf
        have hB73 := bup hbu1 (bup hn2.below hbu3)
        have hown3 := hown.kept (grown_of hB73) (Classical.em _)
        refine wb_a (wa_ap tabOk 3 1 8 hown3 (blk_up hbu3 hn2.blk) rfl rfl rfl rfl rfl rfl rfl rfl rfl rfl (by simp) (by simp [Value.oneCell']) (by omega) (by omega) (by have := hG7.below.size; have := hB73.size; omega) ?_)
        intro D dc u4 hown4 hgr4 hob4
        refine ⟨grown_trans hu3 hgr4, fun u5 hbu5 hu5 => ?_⟩
        conv => whnf
        (repeat' (first | (refine wl_X tabOk 31 1 rfl rfl rfl rfl rfl rfl rfl (by omega) (by omega) (run_l tabOk ?_); conv => whnf) | ((first | refine wl_add rfl rfl rfl rfl rfl rfl (by omega) (by omega) (run_l tabOk ?_) | refine wl_sub rfl rfl rfl rfl rfl rfl (by omega) (by omega) (run_l tabOk ?_) | refine wl_cvA tabOk rfl rfl rfl (by simp only [inK]; omega) rfl rfl rfl (run_l tabOk ?_) | refine wl_cvB tabOk rfl rfl rfl rfl rfl rfl (run_l tabOk ?_) | refine wl_rem rfl rfl rfl rfl rfl rfl (by omega) (by omega) (fun r hr hr0 hr1 hr2 => run_l tabOk ?_) | refine wl_quo rfl rfl rfl rfl rfl rfl (by omega) (by omega) (by simp only [inK]; omega) (run_l tabOk ?_) | refine wl_mul rfl rfl rfl rfl rfl rfl (by omega) (by omega) (run_l tabOk ?_) | refine gs_dt (by first | assumption | omega) ?_ | refine gs_df (by first | assumption | omega) ?_ | refine gs_t (by assumption) ?_ | refine gs_f (by assumption) ?_ | refine gs_d (fun hg => ?_) (fun hg => ?_) | refine gs_n (fun hg => ?_) (fun hg => ?_) | refine gs_nb (fun hg => ?_) (fun hg => ?_) | refine gs_b (fun hg => ?_) (fun hg => ?_)) <;> conv => whnf) | refine fin1 rfl rfl ?_))
        obtain ⟨v8, hv8⟩ : ∃ v8, v8 = Value.slice D (p.1[x.a.toNat]!.length + 1) dc := ⟨_, rfl⟩
        have hrow3 : GInts w.heap.size u3 vI[x.a.toNat]! p.1[x.a.toNat]! := (hG7.mI.row x.a.toNat hi).1.below hB73
        have hrow4 := (gints_push hrow3 (fun w' _ => ⟨(hel w7 (fun _ _ => rfl)).1, (hel w7 (fun _ _ => rfl)).2⟩) hown4 hgr4 hob4 (y := (i : Int) + x.b) (by omega)).below hbu5
        have hgr5 : w7.grownBy u5 vI[x.a.toNat]!.ownBlock := hu5
        have hob5 : (Value.slice D (p.1[x.a.toNat]!.length + 1) dc).ownBlock = vI[x.a.toNat]!.ownBlock ∨ ∃ b, (Value.slice D (p.1[x.a.toNat]!.length + 1) dc).ownBlock = some b ∧ w7.heap.size ≤ b := hob4.imp id fun e => ⟨_, e, hB73.size⟩
        rw [← hv8] at hrow4 hob5
        refine wl_Se (j := x.a.toNat * 1) (v := v8) tabOk (hkM u5 hu5) rfl rfl (by rw [hv8]; rfl) rfl rfl (by rw [hv8]; rfl) (by rw [hG7.mI.len]; omega) rfl rfl ?_
        intro u6 hp6
        rw [Nat.mul_one] at hp6
        have hG8 := hG7.addI hi hrow4 hgr5 hob5 hp6
        refine run_l tabOk ?_
        conv => whnf
        (repeat' (first | ((first | refine wl_add rfl rfl rfl rfl rfl rfl (by omega) (by omega) (run_l tabOk ?_) | refine wl_sub rfl rfl rfl rfl rfl rfl (by omega) (by omega) (run_l tabOk ?_) | refine wl_cvA tabOk rfl rfl rfl (by simp only [inK]; omega) rfl rfl rfl (run_l tabOk ?_) | refine wl_cvB tabOk rfl rfl rfl rfl rfl rfl (run_l tabOk ?_) | refine wl_rem rfl rfl rfl rfl rfl rfl (by omega) (by omega) (fun r hr hr0 hr1 hr2 => run_l tabOk ?_) | refine wl_quo rfl rfl rfl rfl rfl rfl (by omega) (by omega) (by simp only [inK]; omega) (run_l tabOk ?_) | refine wl_mul rfl rfl rfl rfl rfl rfl (by omega) (by omega) (run_l tabOk ?_) | refine gs_dt (by first | assumption | omega) ?_ | refine gs_df (by first | assumption | omega) ?_ | refine gs_t (by assumption) ?_ | refine gs_f (by assumption) ?_ | refine gs_d (fun hg => ?_) (fun hg => ?_) | refine gs_n (fun hg => ?_) (fun hg => ?_) | refine gs_nb (fun hg => ?_) (fun hg => ?_) | refine gs_b (fun hg => ?_) (fun hg => ?_)) <;> conv => whnf) | refine fin1 rfl rfl ?_))
        exact ⟨j + 1, ⟨rfl, rfl, rfl, rfl, rfl, rfl, trivial⟩, ⟨by omega, _, _, _, _, by rw [fold_take _ _ hjl, hx.out, ← hp]; simp only [gstep, addAt]; simp only [hg, hn, if_true]; exact hG8⟩, by omega⟩
      · exact ⟨j + 1, ⟨rfl, rfl, rfl, rfl, rfl, rfl, trivial⟩, ⟨by omega, _, _, _, _, by rw [fold_take _ _ hjl, hx.out, ← hp, gstep, if_neg (by assumption), if_neg (by assumption), if_neg (by assumption)]; exact hG7⟩, by omega⟩
    · (repeat' (first | (refine wl_Lag tabOk hG.b3 rfl rfl rfl rfl rfl rfl (run_l tabOk ?_); conv => whnf) | ((first | refine wl_add rfl rfl rfl rfl rfl rfl (by omega) (by omega) (run_l tabOk ?_) | refine wl_sub rfl rfl rfl rfl rfl rfl (by omega) (by omega) (run_l tabOk ?_) | refine wl_cvA tabOk rfl rfl rfl (by simp only [inK]; omega) rfl rfl rfl (run_l tabOk ?_) | refine wl_cvB tabOk rfl rfl rfl rfl rfl rfl (run_l tabOk ?_) | refine wl_rem rfl rfl rfl rfl rfl rfl (by omega) (by omega) (fun r hr hr0 hr1 hr2 => run_l tabOk ?_) | refine wl_quo rfl rfl rfl rfl rfl rfl (by omega) (by omega) (by simp only [inK]; omega) (run_l tabOk ?_) | refine wl_mul rfl rfl rfl rfl rfl rfl (by omega) (by omega) (run_l tabOk ?_) | refine gs_dt (by first | assumption | omega) ?_ | refine gs_df (by first | assumption | omega) ?_ | refine gs_t (by assumption) ?_ | refine gs_f (by assumption) ?_ | refine gs_d (fun hg => ?_) (fun hg => ?_) | refine gs_n (fun hg => ?_) (fun hg => ?_) | refine gs_nb (fun hg => ?_) (fun hg => ?_) | refine gs_b (fun hg => ?_) (fun hg => ?_)) <;> conv => whnf) | refine fin1 rfl rfl ?_))
      refine wl_Sa tabOk hG.b2 rfl rfl rfl rfl rfl (by simp [Value.oneCell']) rfl rfl ?_
      intro wz hz
      refine run_l tabOk ?_
      conv => whnf
      rw [fold_all _ _ hjl] at hG
      have hlen := gfold_len s.vars s.cons (List.replicate (2 * i) [], List.replicate i [])
      simp only [List.length_replicate] at hlen
      have hgf : gfold s = s.cons.foldl (gstep s.vars) (List.replicate (2 * i) [], List.replicate i []) := by rw [gfold, hn]; simp
      have hres : (Ending.returned (.agg #[.int .i64 i, .slice (some ⟨gI, 0, none⟩) (2 * i) (2 * i), .slice (some ⟨gB, 0, none⟩) i i, .slice (some ⟨gL, 0, none⟩) (2 * i) (2 * i)])) = .returned (.agg #[.int .i64 (graphOf s).vars, .slice (some ⟨gI, 0, none⟩) (graphOf s).into.length (graphOf s).into.length, .slice (some ⟨gB, 0, none⟩) (graphOf s).bases.length (graphOf s).bases.length, .slice (some ⟨gL, 0, none⟩) (graphOf s).loose.length (graphOf s).loose.length]) := by
        rw [hgr, hgf]
        have e1 : (looseB s ++ List.replicate i true).length = 2 * i := by rw [List.length_append, hLn, List.length_replicate]; omega
        simp only [hlen.1, hlen.2, e1]
      refine fin_c tabOk rfl hz.blk rfl rfl ⟨some ⟨gI, 0, none⟩, some ⟨gB, 0, none⟩, some ⟨gL, 0, none⟩, hres, ?_, ?_, ?_, ?_⟩
      · rw [hgr, hgf]
        exact (hG.mI.stays hz.grown (fun b e => by cases e; exact ⟨fun e' => hG.ne.1.2.1 e'.symm, fun hb => (hG.fix g2 (.inl hb)).2.1 rfl⟩)).rows (by rw [hlen.1]; omega)
      · rw [hgr, hgf]
        exact (hG.mB.stays hz.grown (fun b e => by cases e; exact ⟨fun e' => hG.ne.2.2.1 e'.symm, fun hb => (hG.fix g2 (.inr hb)).2.1 rfl⟩)).rows (by rw [hlen.2]; omega)
      · rw [hgr]
        exact rowB_of_blk (hz.old hG.bL hgL.2.2.1) (by simp [hLn]; omega)
      · exact hz.below hG.below (by omega) hG.below.size
end Go.Proofs.Ytjggjhgbobmkhaa

/- weathervanelaw12.awake answers true; the walk of SystemRights. -/
namespace Go.Proofs.Ytjggjhgbobmkhaa
open Go.RowKit
set_option linter.unusedVariables false
set_option linter.unusedSimpArgs false
set_option maxRecDepth 100000
end Go.Proofs.Ytjggjhgbobmkhaa

/- The walk of SystemKinds. -/
namespace Go.Proofs.Ytjggjhgbobmkhaa
open Go.RowKit
set_option linter.unusedVariables false
set_option linter.unusedSimpArgs false
set_option maxRecDepth 100000
end Go.Proofs.Ytjggjhgbobmkhaa

/- The walk of SystemCounts. -/
namespace Go.Proofs.Ytjggjhgbobmkhaa
open Go.RowKit
set_option linter.unusedVariables false
set_option linter.unusedSimpArgs false
set_option maxRecDepth 100000
end Go.Proofs.Ytjggjhgbobmkhaa

/- The walk of SystemLoose. -/
namespace Go.Proofs.Ytjggjhgbobmkhaa
open Go.RowKit
set_option linter.unusedVariables false
set_option linter.unusedSimpArgs false
set_option maxRecDepth 100000
end Go.Proofs.Ytjggjhgbobmkhaa
