/- Several texts of one claim in one file: HC18 HS18. -/
import Derived.Test.YtjggjhgbobmkhaaY15
import Derived.Test.YtjggjhgbobmkhaaY18
import Derived.Test.YtjggjhgbobmkhaaY17
/- A set of the call's own, told by its members alone. -/
namespace Go.Proofs.Ytjggjhgbobmkhaa
open Go.RowKit
set_option linter.unusedVariables false
set_option linter.unusedSimpArgs false
section
variable {B B2 g g2 : Nat} {w w1 : World} {P Q : Nat → Prop}
structure CS (B g : Nat) (w : World) (P : Nat → Prop) : Prop where
  ex : ∃ bs fp, PSet B g w bs fp ∧ (∀ j, memB bs j = true ↔ P j) ∧ bs.length ≤ 1024
  lt : ∀ j, P j → j < 65536
theorem cs_of {bs : List Blk} {fp : List Nat} (h : PSet B g w bs fp) (hm : ∀ j, memB bs j = true ↔ P j) (hl : ∀ j, P j → j < 65536) : CS B g w P :=
  ⟨⟨bs, fp, h, hm, blocks_le h.wf fun m hq => by have := hl m ((hm m).1 hq); omega⟩, hl⟩
theorem CS.up (h : CS B g w P) (hb : Below w.heap.size w w1) : CS B g w1 P := by
  obtain ⟨bs, fp, h1, h2⟩ := h.ex
  exact ⟨⟨bs, fp, h1.up hb, h2⟩, h.lt⟩
theorem CS.imp (h : CS B g w P) (hi : ∀ j, P j ↔ Q j) : CS B g w Q := by
  obtain ⟨bs, fp, h1, h2, h3⟩ := h.ex
  exact ⟨⟨bs, fp, h1, fun j => (h2 j).trans (hi j), h3⟩, fun j hj => h.lt j ((hi j).2 hj)⟩
theorem CS.lower (h : CS B g w P) (hb : B2 ≤ B) : CS B2 g w P := by
  obtain ⟨bs, fp, h1, h2⟩ := h.ex
  exact ⟨⟨bs, fp, h1.lower hb, h2⟩, h.lt⟩
theorem CS.ge (h : CS B g w P) : B ≤ g ∧ g < w.heap.size := by
  obtain ⟨bs, fp, h1, h2⟩ := h.ex
  obtain ⟨V, h3, _⟩ := h1.ex
  exact ⟨h1.ge, blk_lt h3⟩
theorem CS.put {gl : Nat} {cs : Array Value} {t : TypeId} {fr : Nat × Nat} (h : CS B g w P) (hl : w.heap[gl]? = some (.cells cs t fr)) (h1 : t ≠ 76) (h2 : t ≠ 82) (hg : w.grownBy w1 (some gl)) : CS B g w1 P := by
  obtain ⟨bs, fp, hP, hm⟩ := h.ex
  refine ⟨⟨bs, fp, hP.keep fun b hb => hg.block b (hP.lt b hb).2 fun e => ?_, hm⟩, h.lt⟩
  injection e with e
  subst e
  obtain ⟨V, q1, q2, rfl, _⟩ := hP.ex
  rcases List.mem_cons.1 hb with rfl | hb
  · rw [hl] at q1
    simp only [Option.some.injEq, Obj.cells.injEq] at q1
    exact h1 q1.2.1
  · rcases q2.2 with ⟨q3, _⟩ | ⟨g', cap, cur, q3, _, q4, _⟩
    · rw [q3] at hb
      simp [Value.ownBlock] at hb
    · rw [q3] at hb
      have hb : b = g' := by simpa [Value.ownBlock] using hb
      subst hb
      rw [hl] at q4
      simp only [Option.some.injEq, Obj.cells.injEq] at q4
      exact h2 q4.2.1
theorem csNew (h : New w w1 g [.slice none 0 0] 76) : CS w.heap.size g w1 (fun _ => False) := cs_of (pset_new h) (fun j => by simp [memB]) fun _ h => h.elim
theorem csAdd (h : CS B g w P) (hB : B ≤ w.heap.size) (n : Nat) {m : Int} (hm0 : m = (n : Int)) (hn : n < 65536) :
    Calls Try.prog 37 #[.pointer (some ⟨g, 0, none⟩), .int .i64 m] w fun e w' => (∃ b, e = .returned (.bool b)) ∧ CS B g w' (fun j => P j ∨ j = n) ∧ ∀ w0, Below B w0 w → Below B w0 w' := by
  subst hm0
  obtain ⟨bs, fp, hP, hm, hl⟩ := h.ex
  refine (pAdd hP n (by omega) (by omega) hB).mono ?_
  rintro e w' ⟨bs', fp', r⟩
  refine ⟨⟨_, r.ret⟩, cs_of r.set (fun j => ?_) (fun j hj => hj.elim (h.lt j) fun e => by omega), fun w0 hb => r.kept.below hb hB fun k hk => (hP.lt k hk).1⟩
  rw [r.mem, Bool.or_eq_true, hm, decide_eq_true_eq]
  exact or_congr Iff.rfl ⟨fun e => by omega, fun e => by omega⟩
theorem csJoin (h : CS B g w P) (k : CS B2 g2 w Q) (hB : B ≤ w.heap.size) :
    Calls Try.prog 38 #[.pointer (some ⟨g, 0, none⟩), .pointer (some ⟨g2, 0, none⟩)] w fun e w' => (∃ b, e = .returned (.bool b)) ∧ CS B g w' (fun j => P j ∨ Q j) ∧ ∀ w0, Below B w0 w → Below B w0 w' := by
  obtain ⟨bs, fp, hP, hm, hl⟩ := h.ex
  obtain ⟨bs2, fp2, hP2, hm2, hl2⟩ := k.ex
  refine (pJoin hP hP2 (by omega) (by omega) hB).mono ?_
  rintro e w' ⟨bs', fp', r⟩
  refine ⟨⟨_, r.ret⟩, cs_of r.set (fun j => ?_) (fun j hj => hj.elim (h.lt j) (k.lt j)), fun w0 hb => r.kept.below hb hB fun k hk => by simp at hk; subst hk; exact hP.ge⟩
  rw [r.mem, Bool.or_eq_true, hm, hm2]
theorem csOf (l : List Int) (A : Option Addr) (c : Nat) (w : World) (h : RI w A l) (hl : l.length ≤ 1048576) (hm : ∀ x ∈ l, 0 ≤ x ∧ x < 65536) :
    Calls Try.prog 39 #[.slice A l.length c] w fun e w' => ∃ g, e = .returned (.pointer (some ⟨g, 0, none⟩)) ∧ CS w.heap.size g w' (fun j => (j : Int) ∈ l) ∧ Below w.heap.size w w' := by
  refine (pOf l A c w h hl).mono ?_
  rintro e w' ⟨g, bs, fp, he, hO, hb, hl2⟩
  exact ⟨g, he, cs_of hO.set (fun j => by rw [hb, decide_eq_true_eq]) (fun j hj => by have := hm _ hj; omega), hO.below⟩
end
/-! ### a row of sets -/
def pvs (K : Nat) (f : Nat → Value) : List Value := (List.range K).map f
theorem pvs_len (K : Nat) (f : Nat → Value) : (pvs K f).length = K := by simp [pvs]
theorem pvs_get {K k : Nat} {f : Nat → Value} (h : k < K) : (pvs K f)[k]? = some (f k) := by simp [pvs, h]
theorem pvs_set (K : Nat) (f : Nat → Value) (k : Nat) (x : Value) : (pvs K f).set k x = pvs K (setF f k x) := range_setF f K k x
theorem pvs_zero (n : Nat) : (List.replicate n [Value.pointer none]).flatten = pvs n fun _ => .pointer none := by
  induction n with
  | zero => rfl
  | succ n ih =>
    rw [List.replicate_succ, List.flatten_cons, ih]
    unfold pvs
    rw [List.range_succ_eq_map]
    simp [Function.comp_def]
structure HM (w0 : World) (gl K k : Nat) (f : Nat → Value) (M : Nat → Nat → Prop) (w : World) : Prop where
  below : Below w0.heap.size w0 w
  ge : w0.heap.size ≤ gl
  row : w.heap[gl]? = some (.cells (pvs K f).toArray 50 (0, 0))
  set : ∀ p, p < k → ∃ g, f p = .pointer (some ⟨g, 0, none⟩) ∧ CS w0.heap.size g w (M p)
section
variable {w0 w w1 : World} {gl K k g : Nat} {f : Nat → Value} {M : Nat → Nat → Prop}
theorem HM.up (h : HM w0 gl K k f M w) (hb : Below w.heap.size w w1) : HM w0 gl K k f M w1 :=
  ⟨bup h.below hb, h.ge, blk_up hb h.row, fun p hp => by obtain ⟨g, h1, h2⟩ := h.set p hp; exact ⟨g, h1, h2.up hb⟩⟩
theorem HM.cell (h : HM w0 gl K k f M w) {p : Nat} (hp : p < K) : w.cell? ((⟨gl, 0, none⟩ : Addr).add (p * 1)) = some (f p) := by
  rw [Nat.mul_one, add_zero]
  exact cell_blk h.row (by simpa using pvs_get hp)
theorem HM.put (h : HM w0 gl K k f M w) (hc : CS w0.heap.size g w (M k)) (hp : Put w w1 gl ((pvs K f).set k (.pointer (some ⟨g, 0, none⟩))) 50) : HM w0 gl K (k + 1) (setF f k (.pointer (some ⟨g, 0, none⟩))) M w1 := by
  refine ⟨hp.below h.below h.ge h.below.size, h.ge, by rw [← pvs_set]; exact hp.blk, fun p hpk => ?_⟩
  by_cases e : p = k
  · subst e
    exact ⟨g, by simp [setF], hc.put h.row (by decide) (by decide) hp.grown⟩
  · obtain ⟨g', h1, h2⟩ := h.set p (by omega)
    exact ⟨g', by rw [← h1]; simp [setF, e], h2.put h.row (by decide) (by decide) hp.grown⟩
end
/-- The sources of a knot. -/
def KSrc (vars nc : Nat) (into bases : List (List Int)) (lo : List Bool) (kn : List (List Nat)) (p j : Nat) : Prop := ∃ v ∈ kn[p]!, GS vars nc into bases lo v j
def NodeP (vars nc : Nat) (into bases : List (List Int)) (lo : List Bool) (of : Nat → Nat) (p w j : Nat) : Prop := (lo[w]! = true ∧ j = nc + w) ∨ (w < vars ∧ (j : Int) ∈ bases[w]!) ∨ ∃ x ∈ into[w]!, of x.toNat ≠ p ∧ GS vars nc into bases lo x.toNat j
section
variable {vars nc : Nat} {into bases : List (List Int)} {lo : List Bool} {kn : List (List Nat)} {of : Nat → Nat}
theorem ks_at (hri : ∀ v, v < into.length → ∀ x ∈ into[v]!, 0 ≤ x ∧ x < (into.length : Int)) (hK : KnOk into kn of) {p v j : Nat} (hp : p < kn.length) (hv : v ∈ kn[p]!) : KSrc vars nc into bases lo kn p j ↔ GS vars nc into bases lo v j := by
  constructor
  · rintro ⟨u, hu, h⟩
    rw [GS_knot hri hK hp hu] at h
    exact (GS_knot hri hK hp hv).2 h
  · exact fun h => ⟨v, hv, h⟩
theorem ks_nodes (hri : ∀ v, v < into.length → ∀ x ∈ into[v]!, 0 ≤ x ∧ x < (into.length : Int)) (hK : KnOk into kn of) {p j : Nat} (hp : p < kn.length) : KSrc vars nc into bases lo kn p j ↔ ∃ w ∈ kn[p]!, NodeP vars nc into bases lo of p w j := by
  obtain ⟨v, hv⟩ := List.exists_mem_of_ne_nil _ (hK.kn p hp).1
  rw [ks_at hri hK hp hv, GS_knot hri hK hp hv]
  constructor
  · rintro (⟨w, hw, h⟩ | ⟨w, hw, h⟩ | ⟨w, hw, h⟩)
    · exact ⟨w, hw, .inl h⟩
    · exact ⟨w, hw, .inr (.inl h)⟩
    · exact ⟨w, hw, .inr (.inr h)⟩
  · rintro ⟨w, hw, h | h | h⟩
    · exact .inl ⟨w, hw, h⟩
    · exact .inr (.inl ⟨w, hw, h⟩)
    · exact .inr (.inr ⟨w, hw, h⟩)
theorem take_mem {α : Type} [Inhabited α] {l : List α} {i : Nat} (hi : i < l.length) {x : α} : x ∈ l.take (i + 1) ↔ x ∈ l.take i ∨ x = l[i]! := by
  rw [List.take_add_one, List.getElem?_eq_getElem hi, getElem!_pos l i hi, List.mem_append, Option.toList_some, List.mem_singleton]
end
end Go.Proofs.Ytjggjhgbobmkhaa

/- The walk of hu.Sources. -/
namespace Go.Proofs.Ytjggjhgbobmkhaa
open Go.RowKit
set_option linter.unusedVariables false
set_option linter.unusedSimpArgs false
set_option maxRecDepth 100000
theorem run_cutw {P : Program} {T : Nat → Option TI} {n : Nat} {Q : Post} {F : Fm} {w : World} {X : Type} (S : X → List (Nat × Value)) (R : X → World → Prop) {x y : Code} (tail : ∀ z G w, R z w → runC P T n y Q (upds G (S z)) w)
    (k : ∀ yv : Code, (∀ z F' w', holds F' (S z) → R z w' → runC P T n yv Q F' w') → runC P T n (.seq x yv) Q F w) : runC P T n (.seq x y) Q F w :=
  k y fun z F' w' h1 h2 => by have := tail z F' w' h2; rwa [upds_of_holds h1] at this
set_option maxHeartbeats 32000000 in
theorem huSources (vars nc : Nat) (into bases : List (List Int)) (lo : List Bool) (A B C : Option Addr) (ca cb cc : Nat) (w : World) (hG : GOk vars into bases lo) (hnc : nc ≤ 16384) (hbl : ∀ v, v < vars → (bases[v]!).length ≤ 1048576) (hA : RRows w A into) (hB : RRows w B bases) (hC : RowR 1 dB w C lo) :
    Calls Try.prog 21 #[.agg #[.int .i64 vars, .slice A into.length ca, .slice B bases.length cb, .slice C lo.length cc], .int .i64 nc] w fun e w' => ∃ go f, e = .returned (.slice (some ⟨go, 0, none⟩) vars vars) ∧ w'.heap[go]? = some (.cells (pvs vars f).toArray 50 (0, 0)) ∧
      (∀ v, v < vars → ∃ g, f v = .pointer (some ⟨g, 0, none⟩) ∧ CS w.heap.size g w' (GS vars nc into bases lo v)) ∧ Below w.heap.size w w' := by
  have hsm := hG.small
  have hni := hG.ni
  have hnb := hG.nb
  have hnl := hG.nl
  obtain ⟨N, hN⟩ : ∃ N, N = into.length := ⟨_, rfl⟩
  refine enterR (args := [.agg #[.int .i64 vars, .slice A into.length ca, .slice B bases.length cb, .slice C lo.length cc], .int .i64 nc]) tabOk Try.func21 rfl Try.ntmps21 rfl ?_; conv => whnf
  refine wl_box rfl rfl rfl rfl rfl rfl ?_
  intro g1 w1 hn1
  have hb1 := hn1.blk
  refine run_l tabOk ?_
  conv => whnf
  (repeat' (first | (refine wl_Lg tabOk hb1 rfl rfl rfl rfl rfl rfl rfl (run_l tabOk ?_); conv => whnf) | (refine wl_add rfl rfl rfl rfl rfl rfl (by omega) (by omega) (run_l tabOk ?_); conv => whnf) | (refine wl_sub rfl rfl rfl rfl rfl rfl (by omega) (by omega) (run_l tabOk ?_); conv => whnf) | (refine wl_cvA tabOk rfl rfl rfl (by simp only [inK]; omega) rfl rfl rfl (run_l tabOk ?_); conv => whnf) | (refine wl_cvB tabOk rfl rfl rfl rfl rfl rfl (run_l tabOk ?_); conv => whnf) | (refine wl_rem rfl rfl rfl rfl rfl rfl (by omega) (by omega) (fun r hr hr0 hr1 hr2 => run_l tabOk ?_); conv => whnf) | (refine wl_quo rfl rfl rfl rfl rfl rfl (by omega) (by omega) (by simp only [inK]; omega) (run_l tabOk ?_); conv => whnf) | (refine wl_mul rfl rfl rfl rfl rfl rfl (by omega) (by omega) (run_l tabOk ?_); conv => whnf) | (refine gs_dt (by first | assumption | omega) ?_; conv => whnf) | (refine gs_df (by first | assumption | omega) ?_; conv => whnf) | (refine gs_t (by assumption) ?_; conv => whnf) | (refine gs_f (by assumption) ?_; conv => whnf) | (refine gs_d (fun hg => ?_) (fun hg => ?_) <;> conv => whnf) | (refine gs_n (fun hg => ?_) (fun hg => ?_) <;> conv => whnf) | (refine gs_nb (fun hg => ?_) (fun hg => ?_) <;> conv => whnf) | (refine gs_b (fun hg => ?_) (fun hg => ?_) <;> conv => whnf) | refine fin1 rfl rfl ?_))
  refine wl_C fn36 (kFind into A ca w1 (hA.up stays_Ints hn1.below) (by omega)) rfl rfl rfl rfl rfl rfl rfl ?_
  rintro _ w5 ⟨⟨kn, of, Ak, ck, go, rfl, hK, hrk, hcn, hof⟩, hB5⟩
  have hbx : w5.heap[g1]? = some (.cells #[.int .i64 vars, .slice A into.length ca, .slice B bases.length cb, .slice C lo.length cc] 36 (0, 0)) := blk_up hB5 hb1
  have hBw := bup hn1.below hB5
  have hA := hA.up stays_Ints hBw
  have hB := hB.up stays_Ints hBw
  have hC := hC.up stays_B hBw
  clear hn1 hb1 hB5
  have rd : ∀ (wb : World), Below w5.heap.size w5 wb → ∀ j, j < into.length → wb.cell? ((⟨go, 0, none⟩ : Addr).add (j * 1)) = some (.int .i64 (of j : Int)) := fun wb hBb j hj => by
    obtain ⟨z, ad3, ⟨hz3⟩, e3, hc4, _, _⟩ := intsE (hof.up (stays_I _) hBb) j (by rw [ofI_len]; exact hj)
    rw [ofI_at _ hj] at hz3
    subst hz3
    injection e3 with e3
    subst e3
    exact hc4
  obtain ⟨K, hKn⟩ : ∃ K, K = kn.length := ⟨_, rfl⟩
  rw [← hN] at hof
  have hKN : K ≤ N := by
    rw [hKn, hN]
    refine inj_le (fun k => if hk : k < kn.length then (hK.rep hk).choose else 0) (fun k hk => ?_) (fun i j hi hj e => ?_)
    · simp only [hk, dif_pos]
      exact (hK.rep hk).choose_spec.1
    · simp only [hi, hj, dif_pos] at e
      have h1 := (hK.rep hi).choose_spec.2
      have h2 := (hK.rep hj).choose_spec.2
      rw [e] at h1
      omega
  obtain ⟨M, hMd⟩ : ∃ M : Nat → Nat → Prop, M = KSrc vars nc into bases lo kn := ⟨_, rfl⟩
  have hMat : ∀ p v j, p < K → v ∈ kn[p]! → (M p j ↔ GS vars nc into bases lo v j) := fun p v j hp hv => by rw [hMd]; exact ks_at hG.ri hK (by omega) hv
  have hMno : ∀ p j, p < K → (M p j ↔ ∃ u ∈ kn[p]!, NodeP vars nc into bases lo of p u j) := fun p j hp => by rw [hMd]; exact ks_nodes hG.ri hK (by omega)
  clear hMd
  refine ⟨_, rfl, run_l tabOk ?_⟩
  rw [← hKn, ← hN]
  conv => whnf
  (repeat' (first | (refine wl_add rfl rfl rfl rfl rfl rfl (by omega) (by omega) (run_l tabOk ?_); conv => whnf) | (refine wl_sub rfl rfl rfl rfl rfl rfl (by omega) (by omega) (run_l tabOk ?_); conv => whnf) | (refine wl_cvA tabOk rfl rfl rfl (by simp only [inK]; omega) rfl rfl rfl (run_l tabOk ?_); conv => whnf) | (refine wl_cvB tabOk rfl rfl rfl rfl rfl rfl (run_l tabOk ?_); conv => whnf) | (refine wl_rem rfl rfl rfl rfl rfl rfl (by omega) (by omega) (fun r hr hr0 hr1 hr2 => run_l tabOk ?_); conv => whnf) | (refine wl_quo rfl rfl rfl rfl rfl rfl (by omega) (by omega) (by simp only [inK]; omega) (run_l tabOk ?_); conv => whnf) | (refine wl_mul rfl rfl rfl rfl rfl rfl (by omega) (by omega) (run_l tabOk ?_); conv => whnf) | (refine gs_dt (by first | assumption | omega) ?_; conv => whnf) | (refine gs_df (by first | assumption | omega) ?_; conv => whnf) | (refine gs_t (by assumption) ?_; conv => whnf) | (refine gs_f (by assumption) ?_; conv => whnf) | (refine gs_d (fun hg => ?_) (fun hg => ?_) <;> conv => whnf) | (refine gs_n (fun hg => ?_) (fun hg => ?_) <;> conv => whnf) | (refine gs_nb (fun hg => ?_) (fun hg => ?_) <;> conv => whnf) | (refine gs_b (fun hg => ?_) (fun hg => ?_) <;> conv => whnf) | refine fin1 rfl rfl ?_))
  refine wl_mk (m := K) tabOk 50 1 8 rfl rfl rfl rfl rfl rfl rfl rfl rfl (by omega) (by omega) ?_
  intro gl w6 hn6
  refine run_l tabOk ?_
  conv => whnf
  (repeat' (first | (refine wl_add rfl rfl rfl rfl rfl rfl (by omega) (by omega) (run_l tabOk ?_); conv => whnf) | (refine wl_sub rfl rfl rfl rfl rfl rfl (by omega) (by omega) (run_l tabOk ?_); conv => whnf) | (refine wl_cvA tabOk rfl rfl rfl (by simp only [inK]; omega) rfl rfl rfl (run_l tabOk ?_); conv => whnf) | (refine wl_cvB tabOk rfl rfl rfl rfl rfl rfl (run_l tabOk ?_); conv => whnf) | (refine wl_rem rfl rfl rfl rfl rfl rfl (by omega) (by omega) (fun r hr hr0 hr1 hr2 => run_l tabOk ?_); conv => whnf) | (refine wl_quo rfl rfl rfl rfl rfl rfl (by omega) (by omega) (by simp only [inK]; omega) (run_l tabOk ?_); conv => whnf) | (refine wl_mul rfl rfl rfl rfl rfl rfl (by omega) (by omega) (run_l tabOk ?_); conv => whnf) | (refine gs_dt (by first | assumption | omega) ?_; conv => whnf) | (refine gs_df (by first | assumption | omega) ?_; conv => whnf) | (refine gs_t (by assumption) ?_; conv => whnf) | (refine gs_f (by assumption) ?_; conv => whnf) | (refine gs_d (fun hg => ?_) (fun hg => ?_) <;> conv => whnf) | (refine gs_n (fun hg => ?_) (fun hg => ?_) <;> conv => whnf) | (refine gs_nb (fun hg => ?_) (fun hg => ?_) <;> conv => whnf) | (refine gs_b (fun hg => ?_) (fun hg => ?_) <;> conv => whnf) | refine fin1 rfl rfl ?_))
  have hM : HM w5 gl K 0 (fun _ => .pointer none) M w6 := ⟨hn6.below, Nat.le_of_eq hn6.at_.symm, by rw [← pvs_zero]; exact hn6.blk, fun p hp => absurd hp (Nat.not_lt_zero p)⟩
  clear hn6
  refine wc_ends 0 (fun _ _ => False) (X := Nat → Value) (fun f => [(1, .int .i64 nc), (2, .pointer (some ⟨g1, 0, none⟩)), (6, .slice (some ⟨go, 0, none⟩) N N), (7, .slice (some ⟨gl, 0, none⟩) K K)]) (fun f wi => HM w5 gl K K f M wi) ?_ (fun _ _ h => h.elim) ?_
  · refine lp_loop tabOk (X := Nat × (Nat → Value)) (fun x => [(1, .int .i64 nc), (2, .pointer (some ⟨g1, 0, none⟩)), (6, .slice (some ⟨go, 0, none⟩) N N), (7, .slice (some ⟨gl, 0, none⟩) K K), (26, .slice Ak K ck), (27, .int .i64 (K : Int)), (28, .int .i64 (x.1 : Int))]) (fun x wi => x.1 ≤ K ∧ HM w5 gl K x.1 x.2 M wi) (fun x => K - x.1) (0, fun _ => .pointer none) ⟨rfl, rfl, rfl, rfl, rfl, rfl, rfl, trivial⟩ ⟨by simp, hM⟩ ?_
    clear hM
    rintro ⟨k, f⟩ G wr ⟨hk, hM⟩
    simp only at hk hM
    by_cases hlt : k < K
    · obtain ⟨l, hl⟩ : ∃ l, l = kn[k]! := ⟨_, rfl⟩
      have hlN : l.length ≤ N := by
        rw [hl, hN]
        refine nodup_lenK ?_ fun v hv => ((hK.kn k (by omega)).2.2 v hv).1
        exact ((hK.kn k (by omega)).2.1).imp fun {a b} hab e => by omega
      obtain ⟨x0, ad0, B0, cl, ⟨hx0⟩, hA0, hrow0, _, ⟨hR0⟩⟩ := rowsE (hrk.up stays_Ints hM.below) k (by rw [knI_len]; omega)
      rw [knI_at (by omega), ← hl] at hx0
      have hx0l : x0.length = l.length := by rw [← hx0, List.length_map]
      rw [hx0l] at hrow0
      subst hA0
      have hdown : ∀ v, v ∈ l → v < N ∧ ∀ x ∈ into[v]!, of x.toNat ≤ k := fun v hv => by
        rw [hN]
        exact hK.down hG.ri (by omega) (by rw [← hl]; exact hv)
      have hlne : 0 < l.length := by
        rw [hl]
        exact List.length_pos_iff.2 (hK.kn k (by omega)).1
      obtain ⟨adl, hadl⟩ : ∃ adl, B0 = some adl := by
        obtain ⟨ad, cs, e, _⟩ := row_at hR0 0 (by omega)
        exact ⟨ad, e⟩
      subst hadl
      have hR5 : ∀ wi, Below wr.heap.size wr wi → ∀ i, i < l.length → wi.cell? (adl.add (i * 1)) = some (.int .i64 (l[i]! : Int)) := fun wi hb i hi => by
        obtain ⟨y, ad, ⟨hy⟩, e, hc, _, _⟩ := intsE hR0 i (by omega)
        injection e with e
        subst e
        rw [← hx0, castI_at hi] at hy
        subst hy
        exact cell_up hb hc
      have hMk : ∀ j, M k j ↔ ∃ u ∈ l, NodeP vars nc into bases lo of k u j := fun j => by rw [hl]; exact hMno k j hlt
      conv => whnf
      (repeat' (first | (refine wl_L tabOk rfl rfl rfl rfl rfl rfl hrow0 (run_l tabOk ?_); conv => whnf) | (refine wl_Xn tabOk 31 1 rfl rfl rfl rfl rfl rfl rfl (by omega) (run_l tabOk ?_); conv => whnf) | (refine wl_add rfl rfl rfl rfl rfl rfl (by omega) (by omega) (run_l tabOk ?_); conv => whnf) | (refine wl_sub rfl rfl rfl rfl rfl rfl (by omega) (by omega) (run_l tabOk ?_); conv => whnf) | (refine wl_cvA tabOk rfl rfl rfl (by simp only [inK]; omega) rfl rfl rfl (run_l tabOk ?_); conv => whnf) | (refine wl_cvB tabOk rfl rfl rfl rfl rfl rfl (run_l tabOk ?_); conv => whnf) | (refine wl_rem rfl rfl rfl rfl rfl rfl (by omega) (by omega) (fun r hr hr0 hr1 hr2 => run_l tabOk ?_); conv => whnf) | (refine wl_quo rfl rfl rfl rfl rfl rfl (by omega) (by omega) (by simp only [inK]; omega) (run_l tabOk ?_); conv => whnf) | (refine wl_mul rfl rfl rfl rfl rfl rfl (by omega) (by omega) (run_l tabOk ?_); conv => whnf) | (refine gs_dt (by first | assumption | omega) ?_; conv => whnf) | (refine gs_df (by first | assumption | omega) ?_; conv => whnf) | (refine gs_t (by assumption) ?_; conv => whnf) | (refine gs_f (by assumption) ?_; conv => whnf) | (refine gs_d (fun hg => ?_) (fun hg => ?_) <;> conv => whnf) | (refine gs_n (fun hg => ?_) (fun hg => ?_) <;> conv => whnf) | (refine gs_nb (fun hg => ?_) (fun hg => ?_) <;> conv => whnf) | (refine gs_b (fun hg => ?_) (fun hg => ?_) <;> conv => whnf) | refine fin1 rfl rfl ?_))
      refine wl_box rfl rfl rfl rfl rfl rfl ?_
      intro gs wa hna
      have hC0 := csNew hna
      have hBa := hna.below
      clear hna
      refine run_l tabOk ?_
      conv => whnf
      (repeat' (first | (refine wl_add rfl rfl rfl rfl rfl rfl (by omega) (by omega) (run_l tabOk ?_); conv => whnf) | (refine wl_sub rfl rfl rfl rfl rfl rfl (by omega) (by omega) (run_l tabOk ?_); conv => whnf) | (refine wl_cvA tabOk rfl rfl rfl (by simp only [inK]; omega) rfl rfl rfl (run_l tabOk ?_); conv => whnf) | (refine wl_cvB tabOk rfl rfl rfl rfl rfl rfl (run_l tabOk ?_); conv => whnf) | (refine wl_rem rfl rfl rfl rfl rfl rfl (by omega) (by omega) (fun r hr hr0 hr1 hr2 => run_l tabOk ?_); conv => whnf) | (refine wl_quo rfl rfl rfl rfl rfl rfl (by omega) (by omega) (by simp only [inK]; omega) (run_l tabOk ?_); conv => whnf) | (refine wl_mul rfl rfl rfl rfl rfl rfl (by omega) (by omega) (run_l tabOk ?_); conv => whnf) | (refine gs_dt (by first | assumption | omega) ?_; conv => whnf) | (refine gs_df (by first | assumption | omega) ?_; conv => whnf) | (refine gs_t (by assumption) ?_; conv => whnf) | (refine gs_f (by assumption) ?_; conv => whnf) | (refine gs_d (fun hg => ?_) (fun hg => ?_) <;> conv => whnf) | (refine gs_n (fun hg => ?_) (fun hg => ?_) <;> conv => whnf) | (refine gs_nb (fun hg => ?_) (fun hg => ?_) <;> conv => whnf) | (refine gs_b (fun hg => ?_) (fun hg => ?_) <;> conv => whnf) | refine fin1 rfl rfl ?_))
      refine wc_ends 2 (fun _ _ => False) (X := Unit) (fun _ => [(1, .int .i64 nc), (2, .pointer (some ⟨g1, 0, none⟩)), (6, .slice (some ⟨go, 0, none⟩) N N), (7, .slice (some ⟨gl, 0, none⟩) K K), (8, .int .i64 (k : Int)), (10, .pointer (some ⟨gs, 0, none⟩)), (26, .slice (some ad0) K ck), (27, .int .i64 (K : Int)), (28, .int .i64 (k : Int))]) (fun _ wj => Below wr.heap.size wr wj ∧ CS wr.heap.size gs wj (M k)) ?_ (fun _ _ h => h.elim) ?_
      · refine lp_loop tabOk (X := Nat) (fun i => [(1, .int .i64 nc), (2, .pointer (some ⟨g1, 0, none⟩)), (6, .slice (some ⟨go, 0, none⟩) N N), (7, .slice (some ⟨gl, 0, none⟩) K K), (8, .int .i64 (k : Int)), (10, .pointer (some ⟨gs, 0, none⟩)), (26, .slice (some ad0) K ck), (27, .int .i64 (K : Int)), (28, .int .i64 (k : Int)), (35, .slice (some adl) l.length cl), (36, .int .i64 (l.length : Int)), (37, .int .i64 (i : Int))]) (fun i wj => i ≤ l.length ∧ Below wr.heap.size wr wj ∧ CS wr.heap.size gs wj (fun j => ∃ u ∈ l.take i, NodeP vars nc into bases lo of k u j)) (fun i => l.length - i) 0 ⟨rfl, rfl, rfl, rfl, rfl, rfl, rfl, rfl, rfl, rfl, rfl, rfl, trivial⟩ ⟨by omega, hBa, hC0.imp fun j => by simp⟩ ?_
        clear hC0 hBa
        rintro i G5 wi ⟨hi, hBi, hCi⟩
        have hB5i := bup hM.below hBi
        by_cases hil : i < l.length
        · obtain ⟨v, hv⟩ : ∃ v, v = l[i]! := ⟨_, rfl⟩
          have hvl : v ∈ l := by rw [hv, getElem!_pos l i hil]; exact List.getElem_mem hil
          have hvN := (hdown v hvl).1
          have hvd := (hdown v hvl).2
          have hcv := hR5 wi hBi i hil
          rw [← hv] at hcv
          obtain ⟨cad, hCe, rdC⟩ : ∃ cad, C = some cad ∧ ∀ wj, Below w5.heap.size w5 wj → wj.cell? (cad.add (v * 1)) = some (.bool lo[v]!) := by
            obtain ⟨adC, csC, eC, _, hcC, hdC⟩ := row_at hC v (by omega)
            have hdC : csC = [.bool lo[v]!] := hdC
            subst hdC
            exact ⟨adC, eC, fun wj hb => cell_up hb hcC.1⟩
          have hCc := hCe
          subst hCc
          obtain ⟨P0, hP0⟩ : ∃ P : Nat → Prop, P = fun j => ∃ u ∈ l.take i, NodeP vars nc into bases lo of k u j := ⟨_, rfl⟩
          have hPn : ∀ j, (∃ u ∈ l.take (i + 1), NodeP vars nc into bases lo of k u j) ↔ P0 j ∨ NodeP vars nc into bases lo of k v j := fun j => by
            rw [hP0, hv]
            constructor
            · rintro ⟨u, hu, h⟩
              rcases (take_mem hil).1 hu with h2 | h2
              · exact .inl ⟨u, h2, h⟩
              · exact .inr (h2 ▸ h)
            · rintro (⟨u, hu, h⟩ | h)
              · exact ⟨u, (take_mem hil).2 (.inl hu), h⟩
              · exact ⟨_, (take_mem hil).2 (.inr rfl), h⟩
          rw [← hP0] at hCi
          clear hP0
          obtain ⟨b, hb⟩ : ∃ b, b = lo[v]! := ⟨_, rfl⟩
          have hbi := blk_up hB5i hbx
          have hcC := rdC wi hB5i
          rw [← hb] at hcC
          -- what comes into it
          obtain ⟨x, ad2, B2, cc2, ⟨hx⟩, hAi, hrw5, _, ⟨hRx⟩⟩ := rowsE hA v (by omega)
          have hAc := hAi
          subst hAc
          have hxm := hRx.1
          have hyN : ∀ y ∈ x, 0 ≤ y ∧ y < (N : Int) := fun y hy => by rw [hN]; exact hG.ri v (by omega) y (by rw [hx]; exact hy)
          have hyk : ∀ y ∈ x, of y.toNat ≤ k := fun y hy => hvd y (by rw [hx]; exact hy)
          conv => whnf
          (repeat' (first | (refine wl_Lg tabOk hbi rfl rfl rfl rfl rfl rfl rfl (run_l tabOk ?_); conv => whnf) | (refine wl_L tabOk rfl rfl rfl rfl rfl rfl hcv (run_l tabOk ?_); conv => whnf) | (refine wl_Xn tabOk 31 1 rfl rfl rfl rfl rfl rfl rfl (by omega) (run_l tabOk ?_); conv => whnf) | (refine wl_Xn tabOk 3 1 rfl rfl rfl rfl rfl rfl rfl (by omega) (run_l tabOk ?_); conv => whnf) | (refine wl_Xn tabOk 4 1 rfl rfl rfl rfl rfl rfl rfl (by omega) (run_l tabOk ?_); conv => whnf) | (refine wl_add rfl rfl rfl rfl rfl rfl (by omega) (by omega) (run_l tabOk ?_); conv => whnf) | (refine wl_sub rfl rfl rfl rfl rfl rfl (by omega) (by omega) (run_l tabOk ?_); conv => whnf) | (refine wl_cvA tabOk rfl rfl rfl (by simp only [inK]; omega) rfl rfl rfl (run_l tabOk ?_); conv => whnf) | (refine wl_cvB tabOk rfl rfl rfl rfl rfl rfl (run_l tabOk ?_); conv => whnf) | (refine wl_rem rfl rfl rfl rfl rfl rfl (by omega) (by omega) (fun r hr hr0 hr1 hr2 => run_l tabOk ?_); conv => whnf) | (refine wl_quo rfl rfl rfl rfl rfl rfl (by omega) (by omega) (by simp only [inK]; omega) (run_l tabOk ?_); conv => whnf) | (refine wl_mul rfl rfl rfl rfl rfl rfl (by omega) (by omega) (run_l tabOk ?_); conv => whnf) | (refine gs_dt (by first | assumption | omega) ?_; conv => whnf) | (refine gs_df (by first | assumption | omega) ?_; conv => whnf) | (refine gs_t (by assumption) ?_; conv => whnf) | (refine gs_f (by assumption) ?_; conv => whnf) | (refine gs_d (fun hg => ?_) (fun hg => ?_) <;> conv => whnf) | (refine gs_n (fun hg => ?_) (fun hg => ?_) <;> conv => whnf) | (refine gs_nb (fun hg => ?_) (fun hg => ?_) <;> conv => whnf) | (refine gs_b (fun hg => ?_) (fun hg => ?_) <;> conv => whnf) | refine fin1 rfl rfl ?_))
          refine wl_L tabOk rfl rfl rfl rfl rfl rfl hcC (wl_nil ?_)
          refine run_cutw (X := Unit) (fun _ => [(1, .int .i64 nc), (2, .pointer (some ⟨g1, 0, none⟩)), (6, .slice (some ⟨go, 0, none⟩) N N), (7, .slice (some ⟨gl, 0, none⟩) K K), (8, .int .i64 (k : Int)), (10, .pointer (some ⟨gs, 0, none⟩)), (12, .int .i64 (v : Int)), (26, .slice (some ad0) K ck), (27, .int .i64 (K : Int)), (28, .int .i64 (k : Int)), (35, .slice (some adl) l.length cl), (36, .int .i64 (l.length : Int)), (37, .int .i64 (i : Int))]) (fun _ wj => Below wr.heap.size wr wj ∧ CS wr.heap.size gs wj (fun j => P0 j ∨ (b = true ∧ j = nc + v))) ?_ ?_
          · clear hCi hBi hB5i hcv hcC hbi
            rintro _ G6 wj ⟨hBj, hCj⟩
            have hB5j := bup hM.below hBj
            have hbj := blk_up hB5j hbx
            conv => whnf
            refine wl_Lg tabOk hbj rfl rfl rfl rfl rfl rfl rfl (wl_P tabOk rfl rfl rfl rfl (wl_nil ?_))
            refine run_cutw (X := Unit) (fun _ => [(1, .int .i64 nc), (2, .pointer (some ⟨g1, 0, none⟩)), (6, .slice (some ⟨go, 0, none⟩) N N), (7, .slice (some ⟨gl, 0, none⟩) K K), (8, .int .i64 (k : Int)), (10, .pointer (some ⟨gs, 0, none⟩)), (12, .int .i64 (v : Int)), (26, .slice (some ad0) K ck), (27, .int .i64 (K : Int)), (28, .int .i64 (k : Int)), (35, .slice (some adl) l.length cl), (36, .int .i64 (l.length : Int)), (37, .int .i64 (i : Int))]) (fun _ wj => Below wr.heap.size wr wj ∧ CS wr.heap.size gs wj (fun j => (P0 j ∨ (b = true ∧ j = nc + v)) ∨ (v < vars ∧ (j : Int) ∈ bases[v]!))) ?_ ?_
            · clear hCj hBj hB5j hbj
              rintro _ G7 wj ⟨hBj, hCj⟩
              have hB5j := bup hM.below hBj
              have hbj := blk_up hB5j hbx
              have hrw := cell_up hB5j hrw5
              obtain ⟨P3, hP3⟩ : ∃ P : Nat → Prop, P = fun j => (P0 j ∨ (b = true ∧ j = nc + v)) ∨ (v < vars ∧ (j : Int) ∈ bases[v]!) := ⟨_, rfl⟩
              rw [← hP3] at hCj
              conv => whnf
              (repeat' (first | (refine wl_Lg tabOk hbj rfl rfl rfl rfl rfl rfl rfl (run_l tabOk ?_); conv => whnf) | (refine wl_L tabOk rfl rfl rfl rfl rfl rfl hrw (run_l tabOk ?_); conv => whnf) | (refine wl_Xn tabOk 31 1 rfl rfl rfl rfl rfl rfl rfl (by omega) (run_l tabOk ?_); conv => whnf) | (refine wl_add rfl rfl rfl rfl rfl rfl (by omega) (by omega) (run_l tabOk ?_); conv => whnf) | (refine wl_sub rfl rfl rfl rfl rfl rfl (by omega) (by omega) (run_l tabOk ?_); conv => whnf) | (refine wl_cvA tabOk rfl rfl rfl (by simp only [inK]; omega) rfl rfl rfl (run_l tabOk ?_); conv => whnf) | (refine wl_cvB tabOk rfl rfl rfl rfl rfl rfl (run_l tabOk ?_); conv => whnf) | (refine wl_rem rfl rfl rfl rfl rfl rfl (by omega) (by omega) (fun r hr hr0 hr1 hr2 => run_l tabOk ?_); conv => whnf) | (refine wl_quo rfl rfl rfl rfl rfl rfl (by omega) (by omega) (by simp only [inK]; omega) (run_l tabOk ?_); conv => whnf) | (refine wl_mul rfl rfl rfl rfl rfl rfl (by omega) (by omega) (run_l tabOk ?_); conv => whnf) | (refine gs_dt (by first | assumption | omega) ?_; conv => whnf) | (refine gs_df (by first | assumption | omega) ?_; conv => whnf) | (refine gs_t (by assumption) ?_; conv => whnf) | (refine gs_f (by assumption) ?_; conv => whnf) | (refine gs_d (fun hg => ?_) (fun hg => ?_) <;> conv => whnf) | (refine gs_n (fun hg => ?_) (fun hg => ?_) <;> conv => whnf) | (refine gs_nb (fun hg => ?_) (fun hg => ?_) <;> conv => whnf) | (refine gs_b (fun hg => ?_) (fun hg => ?_) <;> conv => whnf) | refine fin1 rfl rfl ?_))
              refine wc_ends 4 (fun _ _ => False) (X := Unit) (fun _ => [(1, .int .i64 nc), (2, .pointer (some ⟨g1, 0, none⟩)), (6, .slice (some ⟨go, 0, none⟩) N N), (7, .slice (some ⟨gl, 0, none⟩) K K), (8, .int .i64 (k : Int)), (10, .pointer (some ⟨gs, 0, none⟩)), (26, .slice (some ad0) K ck), (27, .int .i64 (K : Int)), (28, .int .i64 (k : Int)), (35, .slice (some adl) l.length cl), (36, .int .i64 (l.length : Int)), (37, .int .i64 (i : Int))]) (fun _ wj => Below wr.heap.size wr wj ∧ CS wr.heap.size gs wj (fun j => P0 j ∨ NodeP vars nc into bases lo of k v j)) ?_ (fun _ _ h => h.elim) ?_
              · refine lp_loop tabOk (X := Nat) (fun m => [(1, .int .i64 nc), (2, .pointer (some ⟨g1, 0, none⟩)), (6, .slice (some ⟨go, 0, none⟩) N N), (7, .slice (some ⟨gl, 0, none⟩) K K), (8, .int .i64 (k : Int)), (10, .pointer (some ⟨gs, 0, none⟩)), (26, .slice (some ad0) K ck), (27, .int .i64 (K : Int)), (28, .int .i64 (k : Int)), (35, .slice (some adl) l.length cl), (36, .int .i64 (l.length : Int)), (37, .int .i64 (i : Int)), (67, .slice B2 x.length cc2), (68, .int .i64 (x.length : Int)), (69, .int .i64 (m : Int))]) (fun m wj => m ≤ x.length ∧ Below wr.heap.size wr wj ∧ CS wr.heap.size gs wj (fun j => P3 j ∨ ∃ y ∈ x.take m, of y.toNat ≠ k ∧ GS vars nc into bases lo y.toNat j)) (fun m => x.length - m) 0 ⟨rfl, rfl, rfl, rfl, rfl, rfl, rfl, rfl, rfl, rfl, rfl, rfl, rfl, rfl, rfl, trivial⟩ ⟨by omega, hBj, hCj.imp fun j => by simp⟩ ?_
                clear hCj hBj hB5j hbj hrw
                rintro m G8 wk ⟨hm, hBk, hCk⟩
                have hB5k := bup hM.below hBk
                by_cases hmx : m < x.length
                · obtain ⟨y, ad3, ⟨hy⟩, e3, hyc, _, _⟩ := intsE (hRx.up (stays_I _) hB5k) m hmx
                  subst e3
                  have hym : y ∈ x := by rw [← hy, getElem!_pos x m hmx]; exact List.getElem_mem hmx
                  have hyn := hyN y hym
                  obtain ⟨u, hu⟩ := Int.eq_ofNat_of_zero_le hyn.1
                  subst hu
                  have huk := hyk _ hym
                  rw [Int.toNat_natCast] at huk
                  have hcu := rd wk hB5k u (by omega)
                  have hnext : ∀ j, (∃ y ∈ x.take (m + 1), of y.toNat ≠ k ∧ GS vars nc into bases lo y.toNat j) ↔ (∃ y ∈ x.take m, of y.toNat ≠ k ∧ GS vars nc into bases lo y.toNat j) ∨ (of u ≠ k ∧ GS vars nc into bases lo u j) := fun j => by
                    constructor
                    · rintro ⟨y, h1, h2⟩
                      rcases (take_mem hmx).1 h1 with h3 | h3
                      · exact .inl ⟨y, h3, h2⟩
                      · rw [h3, hy, Int.toNat_natCast] at h2
                        exact .inr h2
                    · rintro (⟨y, h1, h2⟩ | h2)
                      · exact ⟨y, (take_mem hmx).2 (.inl h1), h2⟩
                      · exact ⟨_, (take_mem hmx).2 (.inr rfl), by rw [hy, Int.toNat_natCast]; exact h2⟩
                  by_cases h1 : of u = k
                  · conv => whnf
                    (repeat' (first | (refine wl_L tabOk rfl rfl rfl rfl rfl rfl hyc (run_l tabOk ?_); conv => whnf) | (refine wl_L tabOk rfl rfl rfl rfl rfl rfl hcu (run_l tabOk ?_); conv => whnf) | (refine wl_Xn tabOk 3 1 rfl rfl rfl rfl rfl rfl rfl (by omega) (run_l tabOk ?_); conv => whnf) | (refine wl_add rfl rfl rfl rfl rfl rfl (by omega) (by omega) (run_l tabOk ?_); conv => whnf) | (refine wl_sub rfl rfl rfl rfl rfl rfl (by omega) (by omega) (run_l tabOk ?_); conv => whnf) | (refine wl_cvA tabOk rfl rfl rfl (by simp only [inK]; omega) rfl rfl rfl (run_l tabOk ?_); conv => whnf) | (refine wl_cvB tabOk rfl rfl rfl rfl rfl rfl (run_l tabOk ?_); conv => whnf) | (refine wl_rem rfl rfl rfl rfl rfl rfl (by omega) (by omega) (fun r hr hr0 hr1 hr2 => run_l tabOk ?_); conv => whnf) | (refine wl_quo rfl rfl rfl rfl rfl rfl (by omega) (by omega) (by simp only [inK]; omega) (run_l tabOk ?_); conv => whnf) | (refine wl_mul rfl rfl rfl rfl rfl rfl (by omega) (by omega) (run_l tabOk ?_); conv => whnf) | (refine gs_dt (by first | assumption | omega) ?_; conv => whnf) | (refine gs_df (by first | assumption | omega) ?_; conv => whnf) | (refine gs_t (by assumption) ?_; conv => whnf) | (refine gs_f (by assumption) ?_; conv => whnf) | (refine gs_d (fun hg => ?_) (fun hg => ?_) <;> conv => whnf) | (refine gs_n (fun hg => ?_) (fun hg => ?_) <;> conv => whnf) | (refine gs_nb (fun hg => ?_) (fun hg => ?_) <;> conv => whnf) | (refine gs_b (fun hg => ?_) (fun hg => ?_) <;> conv => whnf) | refine fin1 rfl rfl ?_))
                    exact ⟨m + 1, ⟨rfl, rfl, rfl, rfl, rfl, rfl, rfl, rfl, rfl, rfl, rfl, rfl, rfl, rfl, rfl, trivial⟩, ⟨hmx, hBk, hCk.imp fun j => by rw [hnext j]; exact ⟨fun h => h.elim .inl fun h => .inr (.inl h), fun h => h.elim .inl fun h => h.elim .inr fun h => absurd h1 h.1⟩⟩, by omega⟩
                  · obtain ⟨g2, hf2, hcs⟩ := (hM.up hBk).set (of u) (by omega)
                    have hset := (hM.up hBk).cell (p := of u) (by omega)
                    rw [hf2] at hset
                    have hmu : ∀ j, M (of u) j ↔ GS vars nc into bases lo u j := fun j => hMat (of u) u j (by omega) (hK.at_ u (by omega)).2
                    conv => whnf
                    (repeat' (first | (refine wl_L tabOk rfl rfl rfl rfl rfl rfl hyc (run_l tabOk ?_); conv => whnf) | (refine wl_L tabOk rfl rfl rfl rfl rfl rfl hcu (run_l tabOk ?_); conv => whnf) | (refine wl_L tabOk rfl rfl rfl rfl rfl rfl hset (run_l tabOk ?_); conv => whnf) | (refine wl_Xn tabOk 3 1 rfl rfl rfl rfl rfl rfl rfl (by omega) (run_l tabOk ?_); conv => whnf) | (refine wl_Xn tabOk 50 1 rfl rfl rfl rfl rfl rfl rfl (by omega) (run_l tabOk ?_); conv => whnf) | (refine wl_add rfl rfl rfl rfl rfl rfl (by omega) (by omega) (run_l tabOk ?_); conv => whnf) | (refine wl_sub rfl rfl rfl rfl rfl rfl (by omega) (by omega) (run_l tabOk ?_); conv => whnf) | (refine wl_cvA tabOk rfl rfl rfl (by simp only [inK]; omega) rfl rfl rfl (run_l tabOk ?_); conv => whnf) | (refine wl_cvB tabOk rfl rfl rfl rfl rfl rfl (run_l tabOk ?_); conv => whnf) | (refine wl_rem rfl rfl rfl rfl rfl rfl (by omega) (by omega) (fun r hr hr0 hr1 hr2 => run_l tabOk ?_); conv => whnf) | (refine wl_quo rfl rfl rfl rfl rfl rfl (by omega) (by omega) (by simp only [inK]; omega) (run_l tabOk ?_); conv => whnf) | (refine wl_mul rfl rfl rfl rfl rfl rfl (by omega) (by omega) (run_l tabOk ?_); conv => whnf) | (refine gs_dt (by first | assumption | omega) ?_; conv => whnf) | (refine gs_df (by first | assumption | omega) ?_; conv => whnf) | (refine gs_t (by assumption) ?_; conv => whnf) | (refine gs_f (by assumption) ?_; conv => whnf) | (refine gs_d (fun hg => ?_) (fun hg => ?_) <;> conv => whnf) | (refine gs_n (fun hg => ?_) (fun hg => ?_) <;> conv => whnf) | (refine gs_nb (fun hg => ?_) (fun hg => ?_) <;> conv => whnf) | (refine gs_b (fun hg => ?_) (fun hg => ?_) <;> conv => whnf) | refine fin1 rfl rfl ?_))
                    have hsz2 := hBk.size
                    refine wl_C fn38 (csJoin hCk hcs hsz2) rfl rfl rfl rfl rfl rfl rfl ?_
                    rintro _ w4 ⟨⟨bb, rfl⟩, hC4, hK4⟩
                    refine ⟨_, rfl, run_l tabOk ?_⟩
                    conv => whnf
                    (repeat' (first | (refine wl_add rfl rfl rfl rfl rfl rfl (by omega) (by omega) (run_l tabOk ?_); conv => whnf) | (refine wl_sub rfl rfl rfl rfl rfl rfl (by omega) (by omega) (run_l tabOk ?_); conv => whnf) | (refine wl_cvA tabOk rfl rfl rfl (by simp only [inK]; omega) rfl rfl rfl (run_l tabOk ?_); conv => whnf) | (refine wl_cvB tabOk rfl rfl rfl rfl rfl rfl (run_l tabOk ?_); conv => whnf) | (refine wl_rem rfl rfl rfl rfl rfl rfl (by omega) (by omega) (fun r hr hr0 hr1 hr2 => run_l tabOk ?_); conv => whnf) | (refine wl_quo rfl rfl rfl rfl rfl rfl (by omega) (by omega) (by simp only [inK]; omega) (run_l tabOk ?_); conv => whnf) | (refine wl_mul rfl rfl rfl rfl rfl rfl (by omega) (by omega) (run_l tabOk ?_); conv => whnf) | (refine gs_dt (by first | assumption | omega) ?_; conv => whnf) | (refine gs_df (by first | assumption | omega) ?_; conv => whnf) | (refine gs_t (by assumption) ?_; conv => whnf) | (refine gs_f (by assumption) ?_; conv => whnf) | (refine gs_d (fun hg => ?_) (fun hg => ?_) <;> conv => whnf) | (refine gs_n (fun hg => ?_) (fun hg => ?_) <;> conv => whnf) | (refine gs_nb (fun hg => ?_) (fun hg => ?_) <;> conv => whnf) | (refine gs_b (fun hg => ?_) (fun hg => ?_) <;> conv => whnf) | refine fin1 rfl rfl ?_))
                    exact ⟨m + 1, ⟨rfl, rfl, rfl, rfl, rfl, rfl, rfl, rfl, rfl, rfl, rfl, rfl, rfl, rfl, rfl, trivial⟩, ⟨hmx, hK4 wr hBk, hC4.imp fun j => by rw [hnext j, hmu j]; exact ⟨fun h => h.elim (fun h => h.elim .inl fun h => .inr (.inl h)) fun h => .inr (.inr ⟨h1, h⟩), fun h => h.elim (fun h => .inl (.inl h)) fun h => h.elim (fun h => .inl (.inr h)) fun h => .inr h.2⟩⟩, by omega⟩
                · have hml : m = x.length := by omega
                  rw [hml, List.take_length] at hCk
                  conv => whnf
                  (repeat' (first | (refine wl_add rfl rfl rfl rfl rfl rfl (by omega) (by omega) (run_l tabOk ?_); conv => whnf) | (refine wl_sub rfl rfl rfl rfl rfl rfl (by omega) (by omega) (run_l tabOk ?_); conv => whnf) | (refine wl_cvA tabOk rfl rfl rfl (by simp only [inK]; omega) rfl rfl rfl (run_l tabOk ?_); conv => whnf) | (refine wl_cvB tabOk rfl rfl rfl rfl rfl rfl (run_l tabOk ?_); conv => whnf) | (refine wl_rem rfl rfl rfl rfl rfl rfl (by omega) (by omega) (fun r hr hr0 hr1 hr2 => run_l tabOk ?_); conv => whnf) | (refine wl_quo rfl rfl rfl rfl rfl rfl (by omega) (by omega) (by simp only [inK]; omega) (run_l tabOk ?_); conv => whnf) | (refine wl_mul rfl rfl rfl rfl rfl rfl (by omega) (by omega) (run_l tabOk ?_); conv => whnf) | (refine gs_dt (by first | assumption | omega) ?_; conv => whnf) | (refine gs_df (by first | assumption | omega) ?_; conv => whnf) | (refine gs_t (by assumption) ?_; conv => whnf) | (refine gs_f (by assumption) ?_; conv => whnf) | (refine gs_d (fun hg => ?_) (fun hg => ?_) <;> conv => whnf) | (refine gs_n (fun hg => ?_) (fun hg => ?_) <;> conv => whnf) | (refine gs_nb (fun hg => ?_) (fun hg => ?_) <;> conv => whnf) | (refine gs_b (fun hg => ?_) (fun hg => ?_) <;> conv => whnf) | refine fin1 rfl rfl ?_))
                  refine ⟨rfl, (), ⟨rfl, rfl, rfl, rfl, rfl, rfl, rfl, rfl, rfl, rfl, rfl, rfl, trivial⟩, hBk, hCk.imp fun j => ?_⟩
                  rw [hP3, hb, ← hx]
                  unfold NodeP
                  constructor
                  · rintro (((h | h) | h) | h)
                    · exact .inl h
                    · exact .inr (.inl h)
                    · exact .inr (.inr (.inl h))
                    · exact .inr (.inr (.inr h))
                  · rintro (h | h | h | h)
                    · exact .inl (.inl (.inl h))
                    · exact .inl (.inl (.inr h))
                    · exact .inl (.inr h)
                    · exact .inr h
              · rintro _ G8 wk ⟨hBk, hCk⟩
                conv => whnf
                (repeat' (first | (refine wl_add rfl rfl rfl rfl rfl rfl (by omega) (by omega) (run_l tabOk ?_); conv => whnf) | (refine wl_sub rfl rfl rfl rfl rfl rfl (by omega) (by omega) (run_l tabOk ?_); conv => whnf) | (refine wl_cvA tabOk rfl rfl rfl (by simp only [inK]; omega) rfl rfl rfl (run_l tabOk ?_); conv => whnf) | (refine wl_cvB tabOk rfl rfl rfl rfl rfl rfl (run_l tabOk ?_); conv => whnf) | (refine wl_rem rfl rfl rfl rfl rfl rfl (by omega) (by omega) (fun r hr hr0 hr1 hr2 => run_l tabOk ?_); conv => whnf) | (refine wl_quo rfl rfl rfl rfl rfl rfl (by omega) (by omega) (by simp only [inK]; omega) (run_l tabOk ?_); conv => whnf) | (refine wl_mul rfl rfl rfl rfl rfl rfl (by omega) (by omega) (run_l tabOk ?_); conv => whnf) | (refine gs_dt (by first | assumption | omega) ?_; conv => whnf) | (refine gs_df (by first | assumption | omega) ?_; conv => whnf) | (refine gs_t (by assumption) ?_; conv => whnf) | (refine gs_f (by assumption) ?_; conv => whnf) | (refine gs_d (fun hg => ?_) (fun hg => ?_) <;> conv => whnf) | (refine gs_n (fun hg => ?_) (fun hg => ?_) <;> conv => whnf) | (refine gs_nb (fun hg => ?_) (fun hg => ?_) <;> conv => whnf) | (refine gs_b (fun hg => ?_) (fun hg => ?_) <;> conv => whnf) | refine fin1 rfl rfl ?_))
                exact ⟨i + 1, ⟨rfl, rfl, rfl, rfl, rfl, rfl, rfl, rfl, rfl, rfl, rfl, rfl, trivial⟩, ⟨by omega, hBk, hCk.imp fun j => (hPn j).symm⟩, by omega⟩
            · intro yv hy
              by_cases hvv : v < vars
              · obtain ⟨xb, adb, Bb, cbb, ⟨hxb⟩, hBe, hrb5, _, ⟨hRb⟩⟩ := rowsE hB v (by omega)
                subst hBe
                have hbm := hRb.1
                have hbN : ∀ y ∈ xb, 0 ≤ y ∧ y < 65536 := fun y hy => by have := hG.rb v (by omega) y (by rw [hxb]; exact hy); omega
                have hxbl : xb.length ≤ 1048576 := by rw [← hxb]; exact hbl v hvv
                have hrb := cell_up hB5j hrb5
                conv => whnf
                (repeat' (first | (refine wl_Lg tabOk hbj rfl rfl rfl rfl rfl rfl rfl (run_l tabOk ?_); conv => whnf) | (refine wl_L tabOk rfl rfl rfl rfl rfl rfl hrb (run_l tabOk ?_); conv => whnf) | (refine wl_Xn tabOk 31 1 rfl rfl rfl rfl rfl rfl rfl (by omega) (run_l tabOk ?_); conv => whnf) | (refine wl_add rfl rfl rfl rfl rfl rfl (by omega) (by omega) (run_l tabOk ?_); conv => whnf) | (refine wl_sub rfl rfl rfl rfl rfl rfl (by omega) (by omega) (run_l tabOk ?_); conv => whnf) | (refine wl_cvA tabOk rfl rfl rfl (by simp only [inK]; omega) rfl rfl rfl (run_l tabOk ?_); conv => whnf) | (refine wl_cvB tabOk rfl rfl rfl rfl rfl rfl (run_l tabOk ?_); conv => whnf) | (refine wl_rem rfl rfl rfl rfl rfl rfl (by omega) (by omega) (fun r hr hr0 hr1 hr2 => run_l tabOk ?_); conv => whnf) | (refine wl_quo rfl rfl rfl rfl rfl rfl (by omega) (by omega) (by simp only [inK]; omega) (run_l tabOk ?_); conv => whnf) | (refine wl_mul rfl rfl rfl rfl rfl rfl (by omega) (by omega) (run_l tabOk ?_); conv => whnf) | (refine gs_dt (by first | assumption | omega) ?_; conv => whnf) | (refine gs_df (by first | assumption | omega) ?_; conv => whnf) | (refine gs_t (by assumption) ?_; conv => whnf) | (refine gs_f (by assumption) ?_; conv => whnf) | (refine gs_d (fun hg => ?_) (fun hg => ?_) <;> conv => whnf) | (refine gs_n (fun hg => ?_) (fun hg => ?_) <;> conv => whnf) | (refine gs_nb (fun hg => ?_) (fun hg => ?_) <;> conv => whnf) | (refine gs_b (fun hg => ?_) (fun hg => ?_) <;> conv => whnf) | refine fin1 rfl rfl ?_))
                refine wl_C fn39 (csOf xb Bb cbb wj (hRb.up (stays_I _) hB5j) hxbl hbN) rfl rfl rfl rfl rfl rfl rfl ?_
                rintro _ w3 ⟨g2, rfl, hC2, hB3⟩
                refine ⟨_, rfl, run_l tabOk ?_⟩
                conv => whnf
                have hsz3 := (bup hBj hB3).size
                refine wl_C fn38 (csJoin (hCj.up hB3) hC2 hsz3) rfl rfl rfl rfl rfl rfl rfl ?_
                rintro _ w4 ⟨⟨bb, rfl⟩, hC4, hK4⟩
                refine ⟨_, rfl, run_l tabOk ?_⟩
                conv => whnf
                exact hy () _ _ ⟨rfl, rfl, rfl, rfl, rfl, rfl, rfl, rfl, rfl, rfl, rfl, rfl, rfl, trivial⟩ ⟨hK4 wr (bup hBj hB3), hC4.imp fun j => by rw [hxb]; exact or_congr Iff.rfl ⟨fun h => ⟨hvv, h⟩, fun h => h.2⟩⟩
              · conv => whnf
                (repeat' (first | (refine wl_add rfl rfl rfl rfl rfl rfl (by omega) (by omega) (run_l tabOk ?_); conv => whnf) | (refine wl_sub rfl rfl rfl rfl rfl rfl (by omega) (by omega) (run_l tabOk ?_); conv => whnf) | (refine wl_cvA tabOk rfl rfl rfl (by simp only [inK]; omega) rfl rfl rfl (run_l tabOk ?_); conv => whnf) | (refine wl_cvB tabOk rfl rfl rfl rfl rfl rfl (run_l tabOk ?_); conv => whnf) | (refine wl_rem rfl rfl rfl rfl rfl rfl (by omega) (by omega) (fun r hr hr0 hr1 hr2 => run_l tabOk ?_); conv => whnf) | (refine wl_quo rfl rfl rfl rfl rfl rfl (by omega) (by omega) (by simp only [inK]; omega) (run_l tabOk ?_); conv => whnf) | (refine wl_mul rfl rfl rfl rfl rfl rfl (by omega) (by omega) (run_l tabOk ?_); conv => whnf) | (refine gs_dt (by first | assumption | omega) ?_; conv => whnf) | (refine gs_df (by first | assumption | omega) ?_; conv => whnf) | (refine gs_t (by assumption) ?_; conv => whnf) | (refine gs_f (by assumption) ?_; conv => whnf) | (refine gs_d (fun hg => ?_) (fun hg => ?_) <;> conv => whnf) | (refine gs_n (fun hg => ?_) (fun hg => ?_) <;> conv => whnf) | (refine gs_nb (fun hg => ?_) (fun hg => ?_) <;> conv => whnf) | (refine gs_b (fun hg => ?_) (fun hg => ?_) <;> conv => whnf) | refine fin1 rfl rfl ?_))
                exact hy () _ _ ⟨rfl, rfl, rfl, rfl, rfl, rfl, rfl, rfl, rfl, rfl, rfl, rfl, rfl, trivial⟩ ⟨hBj, hCj.imp fun j => ⟨.inl, fun h => h.elim id fun h => absurd h.1 hvv⟩⟩
          · intro yv hy
            have hbc : b = true ∨ b = false := by cases b <;> simp
            clear hb
            rcases hbc with rfl | rfl
            · conv => whnf
              (repeat' (first | (refine wl_add rfl rfl rfl rfl rfl rfl (by omega) (by omega) (run_l tabOk ?_); conv => whnf) | (refine wl_sub rfl rfl rfl rfl rfl rfl (by omega) (by omega) (run_l tabOk ?_); conv => whnf) | (refine wl_cvA tabOk rfl rfl rfl (by simp only [inK]; omega) rfl rfl rfl (run_l tabOk ?_); conv => whnf) | (refine wl_cvB tabOk rfl rfl rfl rfl rfl rfl (run_l tabOk ?_); conv => whnf) | (refine wl_rem rfl rfl rfl rfl rfl rfl (by omega) (by omega) (fun r hr hr0 hr1 hr2 => run_l tabOk ?_); conv => whnf) | (refine wl_quo rfl rfl rfl rfl rfl rfl (by omega) (by omega) (by simp only [inK]; omega) (run_l tabOk ?_); conv => whnf) | (refine wl_mul rfl rfl rfl rfl rfl rfl (by omega) (by omega) (run_l tabOk ?_); conv => whnf) | (refine gs_dt (by first | assumption | omega) ?_; conv => whnf) | (refine gs_df (by first | assumption | omega) ?_; conv => whnf) | (refine gs_t (by assumption) ?_; conv => whnf) | (refine gs_f (by assumption) ?_; conv => whnf) | (refine gs_d (fun hg => ?_) (fun hg => ?_) <;> conv => whnf) | (refine gs_n (fun hg => ?_) (fun hg => ?_) <;> conv => whnf) | (refine gs_nb (fun hg => ?_) (fun hg => ?_) <;> conv => whnf) | (refine gs_b (fun hg => ?_) (fun hg => ?_) <;> conv => whnf) | refine fin1 rfl rfl ?_))
              have hsz2 := hBi.size
              refine wl_C fn37 (csAdd hCi hsz2 (nc + v) (by omega) (by omega)) rfl rfl rfl rfl rfl rfl rfl ?_
              rintro _ w4 ⟨⟨bb, rfl⟩, hC4, hK4⟩
              refine ⟨_, rfl, run_l tabOk ?_⟩
              conv => whnf
              exact hy () _ _ ⟨rfl, rfl, rfl, rfl, rfl, rfl, rfl, rfl, rfl, rfl, rfl, rfl, rfl, trivial⟩ ⟨hK4 wr hBi, hC4.imp fun j => by simp⟩
            · conv => whnf
              exact hy () _ _ ⟨rfl, rfl, rfl, rfl, rfl, rfl, rfl, rfl, rfl, rfl, rfl, rfl, rfl, trivial⟩ ⟨hBi, hCi.imp fun j => by simp⟩
        · have hil2 : i = l.length := by omega
          rw [hil2, List.take_length] at hCi
          conv => whnf
          (repeat' (first | (refine wl_add rfl rfl rfl rfl rfl rfl (by omega) (by omega) (run_l tabOk ?_); conv => whnf) | (refine wl_sub rfl rfl rfl rfl rfl rfl (by omega) (by omega) (run_l tabOk ?_); conv => whnf) | (refine wl_cvA tabOk rfl rfl rfl (by simp only [inK]; omega) rfl rfl rfl (run_l tabOk ?_); conv => whnf) | (refine wl_cvB tabOk rfl rfl rfl rfl rfl rfl (run_l tabOk ?_); conv => whnf) | (refine wl_rem rfl rfl rfl rfl rfl rfl (by omega) (by omega) (fun r hr hr0 hr1 hr2 => run_l tabOk ?_); conv => whnf) | (refine wl_quo rfl rfl rfl rfl rfl rfl (by omega) (by omega) (by simp only [inK]; omega) (run_l tabOk ?_); conv => whnf) | (refine wl_mul rfl rfl rfl rfl rfl rfl (by omega) (by omega) (run_l tabOk ?_); conv => whnf) | (refine gs_dt (by first | assumption | omega) ?_; conv => whnf) | (refine gs_df (by first | assumption | omega) ?_; conv => whnf) | (refine gs_t (by assumption) ?_; conv => whnf) | (refine gs_f (by assumption) ?_; conv => whnf) | (refine gs_d (fun hg => ?_) (fun hg => ?_) <;> conv => whnf) | (refine gs_n (fun hg => ?_) (fun hg => ?_) <;> conv => whnf) | (refine gs_nb (fun hg => ?_) (fun hg => ?_) <;> conv => whnf) | (refine gs_b (fun hg => ?_) (fun hg => ?_) <;> conv => whnf) | refine fin1 rfl rfl ?_))
          exact ⟨rfl, (), ⟨rfl, rfl, rfl, rfl, rfl, rfl, rfl, rfl, rfl, trivial⟩, hBi, hCi.imp fun j => (hMk j).symm⟩
      · rintro _ G5 wi ⟨hBi, hCi⟩
        have hMi := hM.up hBi
        have hrow := hMi.row
        conv => whnf
        (repeat' (first | (refine wl_Xn tabOk 50 1 rfl rfl rfl rfl rfl rfl rfl (by omega) (run_l tabOk ?_); conv => whnf) | (refine wl_add rfl rfl rfl rfl rfl rfl (by omega) (by omega) (run_l tabOk ?_); conv => whnf) | (refine wl_sub rfl rfl rfl rfl rfl rfl (by omega) (by omega) (run_l tabOk ?_); conv => whnf) | (refine wl_cvA tabOk rfl rfl rfl (by simp only [inK]; omega) rfl rfl rfl (run_l tabOk ?_); conv => whnf) | (refine wl_cvB tabOk rfl rfl rfl rfl rfl rfl (run_l tabOk ?_); conv => whnf) | (refine wl_rem rfl rfl rfl rfl rfl rfl (by omega) (by omega) (fun r hr hr0 hr1 hr2 => run_l tabOk ?_); conv => whnf) | (refine wl_quo rfl rfl rfl rfl rfl rfl (by omega) (by omega) (by simp only [inK]; omega) (run_l tabOk ?_); conv => whnf) | (refine wl_mul rfl rfl rfl rfl rfl rfl (by omega) (by omega) (run_l tabOk ?_); conv => whnf) | (refine gs_dt (by first | assumption | omega) ?_; conv => whnf) | (refine gs_df (by first | assumption | omega) ?_; conv => whnf) | (refine gs_t (by assumption) ?_; conv => whnf) | (refine gs_f (by assumption) ?_; conv => whnf) | (refine gs_d (fun hg => ?_) (fun hg => ?_) <;> conv => whnf) | (refine gs_n (fun hg => ?_) (fun hg => ?_) <;> conv => whnf) | (refine gs_nb (fun hg => ?_) (fun hg => ?_) <;> conv => whnf) | (refine gs_b (fun hg => ?_) (fun hg => ?_) <;> conv => whnf) | refine fin1 rfl rfl ?_))
        refine wl_Se (j := k * 1) (v := .pointer (some ⟨gs, 0, none⟩)) tabOk hrow rfl rfl rfl rfl rfl rfl (by rw [pvs_len]; omega) rfl rfl ?_
        intro w2 hp2
        rw [Nat.mul_one] at hp2
        have hM2 := hMi.put (hCi.lower hM.below.size) hp2
        refine run_l tabOk ?_
        conv => whnf
        (repeat' (first | (refine wl_add rfl rfl rfl rfl rfl rfl (by omega) (by omega) (run_l tabOk ?_); conv => whnf) | (refine wl_sub rfl rfl rfl rfl rfl rfl (by omega) (by omega) (run_l tabOk ?_); conv => whnf) | (refine wl_cvA tabOk rfl rfl rfl (by simp only [inK]; omega) rfl rfl rfl (run_l tabOk ?_); conv => whnf) | (refine wl_cvB tabOk rfl rfl rfl rfl rfl rfl (run_l tabOk ?_); conv => whnf) | (refine wl_rem rfl rfl rfl rfl rfl rfl (by omega) (by omega) (fun r hr hr0 hr1 hr2 => run_l tabOk ?_); conv => whnf) | (refine wl_quo rfl rfl rfl rfl rfl rfl (by omega) (by omega) (by simp only [inK]; omega) (run_l tabOk ?_); conv => whnf) | (refine wl_mul rfl rfl rfl rfl rfl rfl (by omega) (by omega) (run_l tabOk ?_); conv => whnf) | (refine gs_dt (by first | assumption | omega) ?_; conv => whnf) | (refine gs_df (by first | assumption | omega) ?_; conv => whnf) | (refine gs_t (by assumption) ?_; conv => whnf) | (refine gs_f (by assumption) ?_; conv => whnf) | (refine gs_d (fun hg => ?_) (fun hg => ?_) <;> conv => whnf) | (refine gs_n (fun hg => ?_) (fun hg => ?_) <;> conv => whnf) | (refine gs_nb (fun hg => ?_) (fun hg => ?_) <;> conv => whnf) | (refine gs_b (fun hg => ?_) (fun hg => ?_) <;> conv => whnf) | refine fin1 rfl rfl ?_))
        exact ⟨(k + 1, setF f k (.pointer (some ⟨gs, 0, none⟩))), ⟨rfl, rfl, rfl, rfl, rfl, rfl, rfl, trivial⟩, ⟨by simp only; omega, hM2⟩, by simp only; omega⟩
    · have hkK : k = K := by omega
      rw [hkK] at hM
      conv => whnf
      (repeat' (first | (refine wl_add rfl rfl rfl rfl rfl rfl (by omega) (by omega) (run_l tabOk ?_); conv => whnf) | (refine wl_sub rfl rfl rfl rfl rfl rfl (by omega) (by omega) (run_l tabOk ?_); conv => whnf) | (refine wl_cvA tabOk rfl rfl rfl (by simp only [inK]; omega) rfl rfl rfl (run_l tabOk ?_); conv => whnf) | (refine wl_cvB tabOk rfl rfl rfl rfl rfl rfl (run_l tabOk ?_); conv => whnf) | (refine wl_rem rfl rfl rfl rfl rfl rfl (by omega) (by omega) (fun r hr hr0 hr1 hr2 => run_l tabOk ?_); conv => whnf) | (refine wl_quo rfl rfl rfl rfl rfl rfl (by omega) (by omega) (by simp only [inK]; omega) (run_l tabOk ?_); conv => whnf) | (refine wl_mul rfl rfl rfl rfl rfl rfl (by omega) (by omega) (run_l tabOk ?_); conv => whnf) | (refine gs_dt (by first | assumption | omega) ?_; conv => whnf) | (refine gs_df (by first | assumption | omega) ?_; conv => whnf) | (refine gs_t (by assumption) ?_; conv => whnf) | (refine gs_f (by assumption) ?_; conv => whnf) | (refine gs_d (fun hg => ?_) (fun hg => ?_) <;> conv => whnf) | (refine gs_n (fun hg => ?_) (fun hg => ?_) <;> conv => whnf) | (refine gs_nb (fun hg => ?_) (fun hg => ?_) <;> conv => whnf) | (refine gs_b (fun hg => ?_) (fun hg => ?_) <;> conv => whnf) | refine fin1 rfl rfl ?_))
      exact ⟨rfl, f, ⟨rfl, rfl, rfl, rfl, trivial⟩, hM⟩
  · clear hM
    rintro f G wS hM
    have hBS := hM.below
    have hbS := blk_up hBS hbx
    conv => whnf
    (repeat' (first | (refine wl_Lg tabOk hbS rfl rfl rfl rfl rfl rfl rfl (run_l tabOk ?_); conv => whnf) | (refine wl_add rfl rfl rfl rfl rfl rfl (by omega) (by omega) (run_l tabOk ?_); conv => whnf) | (refine wl_sub rfl rfl rfl rfl rfl rfl (by omega) (by omega) (run_l tabOk ?_); conv => whnf) | (refine wl_cvA tabOk rfl rfl rfl (by simp only [inK]; omega) rfl rfl rfl (run_l tabOk ?_); conv => whnf) | (refine wl_cvB tabOk rfl rfl rfl rfl rfl rfl (run_l tabOk ?_); conv => whnf) | (refine wl_rem rfl rfl rfl rfl rfl rfl (by omega) (by omega) (fun r hr hr0 hr1 hr2 => run_l tabOk ?_); conv => whnf) | (refine wl_quo rfl rfl rfl rfl rfl rfl (by omega) (by omega) (by simp only [inK]; omega) (run_l tabOk ?_); conv => whnf) | (refine wl_mul rfl rfl rfl rfl rfl rfl (by omega) (by omega) (run_l tabOk ?_); conv => whnf) | (refine gs_dt (by first | assumption | omega) ?_; conv => whnf) | (refine gs_df (by first | assumption | omega) ?_; conv => whnf) | (refine gs_t (by assumption) ?_; conv => whnf) | (refine gs_f (by assumption) ?_; conv => whnf) | (refine gs_d (fun hg => ?_) (fun hg => ?_) <;> conv => whnf) | (refine gs_n (fun hg => ?_) (fun hg => ?_) <;> conv => whnf) | (refine gs_nb (fun hg => ?_) (fun hg => ?_) <;> conv => whnf) | (refine gs_b (fun hg => ?_) (fun hg => ?_) <;> conv => whnf) | refine fin1 rfl rfl ?_))
    refine wl_mk (m := vars) tabOk 50 1 8 rfl rfl rfl rfl rfl rfl rfl rfl rfl (by omega) (by omega) ?_
    intro g9 w7 hn7
    have hB7 := hn7.below
    have hr7 : w7.heap[g9]? = some (.cells (pvs vars fun _ => .pointer none).toArray 50 (0, 0)) := by rw [← pvs_zero]; exact hn7.blk
    have hg9 : wS.heap.size ≤ g9 := Nat.le_of_eq hn7.at_.symm
    clear hn7
    refine run_l tabOk ?_
    conv => whnf
    (repeat' (first | (refine wl_add rfl rfl rfl rfl rfl rfl (by omega) (by omega) (run_l tabOk ?_); conv => whnf) | (refine wl_sub rfl rfl rfl rfl rfl rfl (by omega) (by omega) (run_l tabOk ?_); conv => whnf) | (refine wl_cvA tabOk rfl rfl rfl (by simp only [inK]; omega) rfl rfl rfl (run_l tabOk ?_); conv => whnf) | (refine wl_cvB tabOk rfl rfl rfl rfl rfl rfl (run_l tabOk ?_); conv => whnf) | (refine wl_rem rfl rfl rfl rfl rfl rfl (by omega) (by omega) (fun r hr hr0 hr1 hr2 => run_l tabOk ?_); conv => whnf) | (refine wl_quo rfl rfl rfl rfl rfl rfl (by omega) (by omega) (by simp only [inK]; omega) (run_l tabOk ?_); conv => whnf) | (refine wl_mul rfl rfl rfl rfl rfl rfl (by omega) (by omega) (run_l tabOk ?_); conv => whnf) | (refine gs_dt (by first | assumption | omega) ?_; conv => whnf) | (refine gs_df (by first | assumption | omega) ?_; conv => whnf) | (refine gs_t (by assumption) ?_; conv => whnf) | (refine gs_f (by assumption) ?_; conv => whnf) | (refine gs_d (fun hg => ?_) (fun hg => ?_) <;> conv => whnf) | (refine gs_n (fun hg => ?_) (fun hg => ?_) <;> conv => whnf) | (refine gs_nb (fun hg => ?_) (fun hg => ?_) <;> conv => whnf) | (refine gs_b (fun hg => ?_) (fun hg => ?_) <;> conv => whnf) | refine fin1 rfl rfl ?_))
    refine wc_ends 6 (fun _ _ => False) (X := Nat → Value) (fun x => [(15, .slice (some ⟨g9, 0, none⟩) vars vars)]) (fun x wj => Below wS.heap.size wS wj ∧ wj.heap[g9]? = some (.cells (pvs vars x).toArray 50 (0, 0)) ∧ ∀ u, u < vars → x u = f (of u)) ?_ (fun _ _ h => h.elim) ?_
    · refine lp_loop tabOk (X := Nat × (Nat → Value)) (fun x => [(6, .slice (some ⟨go, 0, none⟩) N N), (7, .slice (some ⟨gl, 0, none⟩) K K), (15, .slice (some ⟨g9, 0, none⟩) vars vars), (99, .int .i64 (vars : Int)), (100, .int .i64 (x.1 : Int))]) (fun x wj => x.1 ≤ vars ∧ Below wS.heap.size wS wj ∧ wj.heap[g9]? = some (.cells (pvs vars x.2).toArray 50 (0, 0)) ∧ ∀ u, u < x.1 → x.2 u = f (of u)) (fun x => vars - x.1) (0, fun _ => .pointer none) ⟨rfl, rfl, rfl, rfl, rfl, trivial⟩ ⟨by simp, hB7, hr7, fun u hu => absurd hu (Nat.not_lt_zero u)⟩ ?_
      clear hB7 hr7
      rintro ⟨v, x⟩ G2 wj ⟨hv, hBj, hrj, hfj⟩
      simp only at hv hBj hrj hfj
      by_cases hvn : v < vars
      · have hcv := rd wj (bup hBS hBj) v (by omega)
        have hov := (hK.at_ v (by omega)).1
        have hcf := (hM.up hBj).cell (p := of v) (by omega)
        conv => whnf
        (repeat' (first | (refine wl_L tabOk rfl rfl rfl rfl rfl rfl hcv (run_l tabOk ?_); conv => whnf) | (refine wl_L tabOk rfl rfl rfl rfl rfl rfl hcf (run_l tabOk ?_); conv => whnf) | (refine wl_Xn tabOk 3 1 rfl rfl rfl rfl rfl rfl rfl (by omega) (run_l tabOk ?_); conv => whnf) | (refine wl_Xn tabOk 50 1 rfl rfl rfl rfl rfl rfl rfl (by omega) (run_l tabOk ?_); conv => whnf) | (refine wl_add rfl rfl rfl rfl rfl rfl (by omega) (by omega) (run_l tabOk ?_); conv => whnf) | (refine wl_sub rfl rfl rfl rfl rfl rfl (by omega) (by omega) (run_l tabOk ?_); conv => whnf) | (refine wl_cvA tabOk rfl rfl rfl (by simp only [inK]; omega) rfl rfl rfl (run_l tabOk ?_); conv => whnf) | (refine wl_cvB tabOk rfl rfl rfl rfl rfl rfl (run_l tabOk ?_); conv => whnf) | (refine wl_rem rfl rfl rfl rfl rfl rfl (by omega) (by omega) (fun r hr hr0 hr1 hr2 => run_l tabOk ?_); conv => whnf) | (refine wl_quo rfl rfl rfl rfl rfl rfl (by omega) (by omega) (by simp only [inK]; omega) (run_l tabOk ?_); conv => whnf) | (refine wl_mul rfl rfl rfl rfl rfl rfl (by omega) (by omega) (run_l tabOk ?_); conv => whnf) | (refine gs_dt (by first | assumption | omega) ?_; conv => whnf) | (refine gs_df (by first | assumption | omega) ?_; conv => whnf) | (refine gs_t (by assumption) ?_; conv => whnf) | (refine gs_f (by assumption) ?_; conv => whnf) | (refine gs_d (fun hg => ?_) (fun hg => ?_) <;> conv => whnf) | (refine gs_n (fun hg => ?_) (fun hg => ?_) <;> conv => whnf) | (refine gs_nb (fun hg => ?_) (fun hg => ?_) <;> conv => whnf) | (refine gs_b (fun hg => ?_) (fun hg => ?_) <;> conv => whnf) | refine fin1 rfl rfl ?_))
        have hone : (f (of v)).oneCell' = true := by
          obtain ⟨g2, hf2, _⟩ := hM.set (of v) (by omega)
          rw [hf2]
          rfl
        refine wl_Se (j := v * 1) (v := f (of v)) tabOk hrj rfl rfl rfl rfl rfl hone (by rw [pvs_len]; omega) rfl rfl ?_
        intro w2 hp2
        rw [Nat.mul_one, pvs_set] at hp2
        refine run_l tabOk ?_
        conv => whnf
        (repeat' (first | (refine wl_add rfl rfl rfl rfl rfl rfl (by omega) (by omega) (run_l tabOk ?_); conv => whnf) | (refine wl_sub rfl rfl rfl rfl rfl rfl (by omega) (by omega) (run_l tabOk ?_); conv => whnf) | (refine wl_cvA tabOk rfl rfl rfl (by simp only [inK]; omega) rfl rfl rfl (run_l tabOk ?_); conv => whnf) | (refine wl_cvB tabOk rfl rfl rfl rfl rfl rfl (run_l tabOk ?_); conv => whnf) | (refine wl_rem rfl rfl rfl rfl rfl rfl (by omega) (by omega) (fun r hr hr0 hr1 hr2 => run_l tabOk ?_); conv => whnf) | (refine wl_quo rfl rfl rfl rfl rfl rfl (by omega) (by omega) (by simp only [inK]; omega) (run_l tabOk ?_); conv => whnf) | (refine wl_mul rfl rfl rfl rfl rfl rfl (by omega) (by omega) (run_l tabOk ?_); conv => whnf) | (refine gs_dt (by first | assumption | omega) ?_; conv => whnf) | (refine gs_df (by first | assumption | omega) ?_; conv => whnf) | (refine gs_t (by assumption) ?_; conv => whnf) | (refine gs_f (by assumption) ?_; conv => whnf) | (refine gs_d (fun hg => ?_) (fun hg => ?_) <;> conv => whnf) | (refine gs_n (fun hg => ?_) (fun hg => ?_) <;> conv => whnf) | (refine gs_nb (fun hg => ?_) (fun hg => ?_) <;> conv => whnf) | (refine gs_b (fun hg => ?_) (fun hg => ?_) <;> conv => whnf) | refine fin1 rfl rfl ?_))
        refine ⟨(v + 1, setF x v (f (of v))), ⟨rfl, rfl, rfl, rfl, rfl, trivial⟩, ⟨by simp only; omega, hp2.below hBj hg9 hBj.size, hp2.blk, fun u hu => ?_⟩, by simp only; omega⟩
        by_cases e : u = v
        · rw [e]; simp [setF]
        · simp only [setF, e, if_false]
          exact hfj u (by omega)
      · have hvn2 : v = vars := by omega
        rw [hvn2] at hfj
        conv => whnf
        (repeat' (first | (refine wl_add rfl rfl rfl rfl rfl rfl (by omega) (by omega) (run_l tabOk ?_); conv => whnf) | (refine wl_sub rfl rfl rfl rfl rfl rfl (by omega) (by omega) (run_l tabOk ?_); conv => whnf) | (refine wl_cvA tabOk rfl rfl rfl (by simp only [inK]; omega) rfl rfl rfl (run_l tabOk ?_); conv => whnf) | (refine wl_cvB tabOk rfl rfl rfl rfl rfl rfl (run_l tabOk ?_); conv => whnf) | (refine wl_rem rfl rfl rfl rfl rfl rfl (by omega) (by omega) (fun r hr hr0 hr1 hr2 => run_l tabOk ?_); conv => whnf) | (refine wl_quo rfl rfl rfl rfl rfl rfl (by omega) (by omega) (by simp only [inK]; omega) (run_l tabOk ?_); conv => whnf) | (refine wl_mul rfl rfl rfl rfl rfl rfl (by omega) (by omega) (run_l tabOk ?_); conv => whnf) | (refine gs_dt (by first | assumption | omega) ?_; conv => whnf) | (refine gs_df (by first | assumption | omega) ?_; conv => whnf) | (refine gs_t (by assumption) ?_; conv => whnf) | (refine gs_f (by assumption) ?_; conv => whnf) | (refine gs_d (fun hg => ?_) (fun hg => ?_) <;> conv => whnf) | (refine gs_n (fun hg => ?_) (fun hg => ?_) <;> conv => whnf) | (refine gs_nb (fun hg => ?_) (fun hg => ?_) <;> conv => whnf) | (refine gs_b (fun hg => ?_) (fun hg => ?_) <;> conv => whnf) | refine fin1 rfl rfl ?_))
        exact ⟨rfl, x, ⟨rfl, trivial⟩, hBj, hrj, hfj⟩
    · rintro x G2 wj ⟨hBj, hrj, hfj⟩
      conv => whnf
      (repeat' (first | (refine wl_add rfl rfl rfl rfl rfl rfl (by omega) (by omega) (run_l tabOk ?_); conv => whnf) | (refine wl_sub rfl rfl rfl rfl rfl rfl (by omega) (by omega) (run_l tabOk ?_); conv => whnf) | (refine wl_cvA tabOk rfl rfl rfl (by simp only [inK]; omega) rfl rfl rfl (run_l tabOk ?_); conv => whnf) | (refine wl_cvB tabOk rfl rfl rfl rfl rfl rfl (run_l tabOk ?_); conv => whnf) | (refine wl_rem rfl rfl rfl rfl rfl rfl (by omega) (by omega) (fun r hr hr0 hr1 hr2 => run_l tabOk ?_); conv => whnf) | (refine wl_quo rfl rfl rfl rfl rfl rfl (by omega) (by omega) (by simp only [inK]; omega) (run_l tabOk ?_); conv => whnf) | (refine wl_mul rfl rfl rfl rfl rfl rfl (by omega) (by omega) (run_l tabOk ?_); conv => whnf) | (refine gs_dt (by first | assumption | omega) ?_; conv => whnf) | (refine gs_df (by first | assumption | omega) ?_; conv => whnf) | (refine gs_t (by assumption) ?_; conv => whnf) | (refine gs_f (by assumption) ?_; conv => whnf) | (refine gs_d (fun hg => ?_) (fun hg => ?_) <;> conv => whnf) | (refine gs_n (fun hg => ?_) (fun hg => ?_) <;> conv => whnf) | (refine gs_nb (fun hg => ?_) (fun hg => ?_) <;> conv => whnf) | (refine gs_b (fun hg => ?_) (fun hg => ?_) <;> conv => whnf) | refine fin1 rfl rfl ?_))
      refine ⟨g9, x, rfl, hrj, fun v hv => ?_, bup hBw (bup hBS hBj)⟩
      have hat := hK.at_ v (by omega)
      obtain ⟨g2, hf2, hcs⟩ := (hM.up hBj).set (of v) (by omega)
      exact ⟨g2, by rw [hfj v hv, hf2], (hcs.lower hBw.size).imp fun j => hMat (of v) v j (by omega) hat.2⟩
end Go.Proofs.Ytjggjhgbobmkhaa
