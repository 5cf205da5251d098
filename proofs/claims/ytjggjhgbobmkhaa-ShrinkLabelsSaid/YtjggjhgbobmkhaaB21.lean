/- Several texts of one claim in one file: PU19 L1502 L1503 R0. -/
import Derived.Test.YtjggjhgbobmkhaaB20
import Derived.Test.YtjggjhgbobmkhaaB9
import Derived.Test.YtjggjhgbobmkhaaB12
import Derived.Test.YtjggjhgbobmkhaaB1
/- Labels by the quick way tell one partition, however knots are numbered: plain. -/
namespace Go.Proofs.Ytjggjhgbobmkhaa
set_option linter.unusedVariables false
set_option linter.unusedSimpArgs false
section
variable {vars : Nat} {into bases : List (List Int)} {lo : List Bool} {kn : List (List Nat)} {of : Nat → Nat}
def SC (into : List (List Int)) (v u : Nat) : Prop := Rg into v u ∧ Rg into u v
def InE (into : List (List Int)) (v x : Nat) : Prop := ∃ w, w < into.length ∧ SC into v w ∧ (x : Int) ∈ into[w]! ∧ ¬ SC into v x
def WE (vars : Nat) (into bases : List (List Int)) (v : Nat) (o : Int) : Prop := ∃ w, w < into.length ∧ SC into v w ∧ w < vars ∧ o ∈ bases[w]!
def BE (into : List (List Int)) (lo : List Bool) (v : Nat) : Prop := ∃ w, w < into.length ∧ SC into v w ∧ lo[w]! = true
/-- What is true of such labels. -/
structure LCh (vars : Nat) (into bases : List (List Int)) (lo : List Bool) (l : Nat → Int) : Prop where
  t1 : ∀ v, v < into.length → (l v = -1 ↔ ∀ j, ¬ GS vars 0 into bases lo v j)
  t2 : ∀ v, v < into.length → ¬ BE into lo v → (∀ o, ¬ WE vars into bases v o) → ∀ x, InE into v x → l x ≠ -1 → (∀ y, InE into v y → l y ≠ -1 → l y = l x) → l v = l x
  t3 : ∃ Q : Int → Int, (∀ v, v < into.length → ¬ BE into lo v → ∀ o, WE vars into bases v o → (∀ p, WE vars into bases v p → p = o) → (∀ x, InE into v x → l x = -1) → l v = Q o) ∧
    ∀ v u, v < into.length → u < into.length → ∀ o p, WE vars into bases v o → (∀ r, WE vars into bases v r → r = o) → (∀ x, InE into v x → l x = -1) → ¬ BE into lo v → WE vars into bases u p → (∀ r, WE vars into bases u r → r = p) → (∀ x, InE into u x → l x = -1) → ¬ BE into lo u → Q o = Q p → o = p
  t4 : ∀ v, v < into.length → (BE into lo v ∨ (∃ o p, o ≠ p ∧ WE vars into bases v o ∧ WE vars into bases v p) ∨ (∃ x y, InE into v x ∧ InE into v y ∧ l x ≠ -1 ∧ l y ≠ -1 ∧ l x ≠ l y) ∨ (∃ o x, WE vars into bases v o ∧ InE into v x ∧ l x ≠ -1)) → ∀ u, u < into.length → l u = l v → Rg into u v
  same : ∀ v u, v < into.length → u < into.length → SC into v u → l v = l u
theorem rg_lt {v u : Nat} (h : Rg into v u) (hv : v < into.length) : u < into.length := h.closed (P := fun x => x < into.length) (fun a b _ e => e.lt.2) hv
theorem SC.lt {v u : Nat} (h : SC into v u) (hv : v < into.length) : u < into.length := rg_lt h.1 hv
theorem lch_of (hG : GOk vars into bases lo) (hK : KnOk into kn of) : LCh vars into bases lo (fun v => lv vars into bases lo kn of v) := by
  have hmem : ∀ v, v < into.length → ∀ w, w ∈ kn[of v]! ↔ w < into.length ∧ SC into v w := fun v hv w => by
    constructor
    · intro hw
      obtain ⟨h1, h2⟩ := (hK.kn (of v) (hK.at_ v hv).1).2.2 w hw
      exact ⟨h1, (hK.scc v w hv h1).1 h2.symm⟩
    · rintro ⟨h1, h2⟩
      rw [(hK.scc v w hv h1).2 h2]
      exact (hK.at_ w h1).2
  have hne : ∀ v x, v < into.length → x < into.length → (of x ≠ of v ↔ ¬ SC into v x) := fun v x hv hx => not_congr ⟨fun h => (hK.scc v x hv hx).1 h.symm, fun h => ((hK.scc v x hv hx).2 h).symm⟩
  have hlab : ∀ v, v < into.length → ∀ w ∈ kn[of v]!, ∀ x ∈ into[w]!, of x.toNat ≠ of v → (labN vars into bases lo kn of (of v)).lab (of x.toNat) = lv vars into bases lo kn of x.toNat := fun v hv w hw x hx hxn => by
    have hp := (hK.at_ v hv).1
    have := (hK.down hG.ri hp hw).2 x hx
    rw [lab_fin (Nat.lt_of_le_of_ne this hxn) (Nat.le_of_lt hp)]
  have hS : ∀ v, v < into.length → ∀ y, y ∈ seenK into kn of (labN vars into bases lo kn of (of v)).lab (of v) ↔ ∃ x, InE into v x ∧ lv vars into bases lo kn of x ≠ -1 ∧ y = lv vars into bases lo kn of x := fun v hv y => by
    rw [mem_seenK]
    constructor
    · rintro ⟨w, hw, x, hx, h1, h2, h3⟩
      obtain ⟨hw1, hw2⟩ := (hmem v hv w).1 hw
      have hx2 := hG.ri w hw1 x hx
      rw [hlab v hv w hw x hx h1] at h2 h3
      exact ⟨x.toNat, ⟨w, hw1, hw2, by rw [show ((x.toNat : Nat) : Int) = x by omega]; exact hx, (hne v x.toNat hv (by omega)).1 h1⟩, h2, h3⟩
    · rintro ⟨x, ⟨w, hw1, hw2, hx, hns⟩, h2, h3⟩
      have hx2 := hG.ri w hw1 x hx
      have hw := (hmem v hv w).2 ⟨hw1, hw2⟩
      have h1 : of (x : Int).toNat ≠ of v := by rw [Int.toNat_natCast]; exact (hne v x hv (by omega)).2 hns
      have e := hlab v hv w hw (x : Int) hx h1
      rw [Int.toNat_natCast] at e h1
      exact ⟨w, hw, (x : Int), hx, by rw [Int.toNat_natCast]; exact h1, by rw [Int.toNat_natCast, e]; exact h2, by rw [Int.toNat_natCast, e]; exact h3⟩
  have hW : ∀ v, v < into.length → ∀ o, o ∈ ownK vars bases kn (of v) ↔ WE vars into bases v o := fun v hv o => by
    rw [mem_ownK]
    exact ⟨fun ⟨w, hw, h1, h2⟩ => ⟨w, ((hmem v hv w).1 hw).1, ((hmem v hv w).1 hw).2, h1, h2⟩, fun ⟨w, h0, hw, h1, h2⟩ => ⟨w, (hmem v hv w).2 ⟨h0, hw⟩, h1, h2⟩⟩
  have hB : ∀ v, v < into.length → (looK lo kn (of v) = true ↔ BE into lo v) := fun v hv => by
    rw [looK_iff]
    exact ⟨fun ⟨w, hw, h1⟩ => ⟨w, ((hmem v hv w).1 hw).1, ((hmem v hv w).1 hw).2, h1⟩, fun ⟨w, h0, hw, h1⟩ => ⟨w, (hmem v hv w).2 ⟨h0, hw⟩, h1⟩⟩
  have hWn : ∀ v, v < into.length → (ownK vars bases kn (of v)).Nodup := fun v hv => (fold_inv (p := OwnP) _ _ ⟨.nil, by simp⟩ fun S a ha hS => ownV_ok (fun v hv => hG.rb v (by rw [hG.nb]; exact hv)) hS).1
  have hSn : ∀ v, v < into.length → (seenK into kn of (labN vars into bases lo kn of (of v)).lab (of v)).Nodup := fun v hv => (seenK_ok hG hK (hK.at_ v hv).1 (labN_ok hG hK (of v) (Nat.le_of_lt (hK.at_ v hv).1))).1
  have hLf : ∀ v, v < into.length → lv vars into bases lo kn of v = (labelF (seenK into kn of (labN vars into bases lo kn of (of v)).lab (of v)) (ownK vars bases kn (of v)) (looK lo kn (of v)) (labN vars into bases lo kn of (of v)).ob (labN vars into bases lo kn of (of v)).nx).1 := fun v hv => Lf_eq (hK.at_ v hv).1
  have one : ∀ {L : List Int} {a : Int}, L.Nodup → a ∈ L → (∀ b ∈ L, b = a) → L = [a] := fun {L a} hn ha hb => by
    match L, hn, ha, hb with
    | [b], _, ha, _ => simp at ha; rw [ha]
    | b :: c :: r, hn, _, hb =>
      have h1 := hb b (by simp)
      have h2 := hb c (by simp)
      have := (List.nodup_cons.1 hn).1
      rw [h1, h2] at this
      simp at this
  have bf : ∀ v, v < into.length → ¬ BE into lo v → looK lo kn (of v) = false := fun v hv h => Bool.eq_false_iff.2 fun hb => h ((hB v hv).1 hb)
  have f3 : ∀ v, v < into.length → ¬ BE into lo v → ∀ o, WE vars into bases v o → (∀ p, WE vars into bases v p → p = o) → (∀ x, InE into v x → lv vars into bases lo kn of x = -1) → ∃ q : Nat, (labN vars into bases lo kn of kn.length).ob o = some q ∧ lv vars into bases lo kn of v = (q : Int) := fun v hv hb o ho hp hx => by
    have hk := (hK.at_ v hv).1
    have e := hLf v hv
    have hSe : seenK into kn of (labN vars into bases lo kn of (of v)).lab (of v) = [] := nil_of_no fun y hy => by
      obtain ⟨x, h1, h2, _⟩ := (hS v hv y).1 hy
      exact h2 (hx x h1)
    have hWe : ownK vars bases kn (of v) = [o] := one (hWn v hv) ((hW v hv o).2 ho) fun b hb => hp b ((hW v hv b).1 hb)
    have eob : (labN vars into bases lo kn of (of v + 1)).ob o = (labelF (seenK into kn of (labN vars into bases lo kn of (of v)).lab (of v)) (ownK vars bases kn (of v)) (looK lo kn (of v)) (labN vars into bases lo kn of (of v)).ob (labN vars into bases lo kn of (of v)).nx).2.2 o := rfl
    rw [hSe, hWe, bf v hv hb] at e eob
    obtain ⟨d, hd⟩ : ∃ d, kn.length = of v + 1 + d := ⟨kn.length - (of v + 1), by omega⟩
    cases hq : (labN vars into bases lo kn of (of v)).ob o with
    | some q =>
      have h1 : (labelF [] [o] false (labN vars into bases lo kn of (of v)).ob (labN vars into bases lo kn of (of v)).nx) = ((q : Int), (labN vars into bases lo kn of (of v)).nx, (labN vars into bases lo kn of (of v)).ob) := by
        unfold labelF
        rw [if_neg (by simp)]
        simp only [labelO, hq]
      rw [h1] at e eob
      refine ⟨q, ?_, e⟩
      rw [hd]
      exact ob_keep (eob.trans hq) d
    | none =>
      have h1 : (labelF [] [o] false (labN vars into bases lo kn of (of v)).ob (labN vars into bases lo kn of (of v)).nx) = (((labN vars into bases lo kn of (of v)).nx : Int), (labN vars into bases lo kn of (of v)).nx + 1, putN (labN vars into bases lo kn of (of v)).ob o (labN vars into bases lo kn of (of v)).nx) := by
        unfold labelF
        rw [if_neg (by simp)]
        simp only [labelO, hq]
      rw [h1] at e eob
      refine ⟨_, ?_, e⟩
      rw [hd]
      exact ob_keep (eob.trans (if_pos rfl)) d
  refine ⟨fun v hv => lv_none hG hK 0 hv, fun v hv hb hw x hx hxl hy => ?_, ⟨fun o => match (labN vars into bases lo kn of kn.length).ob o with | some q => (q : Int) | none => -2, fun v hv hb o ho hp hx => ?_, fun v u hv hu o p ho ho2 hox hob hp hp2 hpx hpb e => ?_⟩, fun v hv h u hu e => ?_, fun v u hv hu h => ?_⟩
  · have e := hLf v hv
    have hWe : ownK vars bases kn (of v) = [] := nil_of_no fun y hy => hw y ((hW v hv y).1 hy)
    have hSe := one (hSn v hv) ((hS v hv _).2 ⟨x, hx, hxl, rfl⟩) fun b hb => by
      obtain ⟨y, h1, h2, h3⟩ := (hS v hv b).1 hb
      rw [h3]
      exact hy y h1 h2
    rw [hSe, hWe, bf v hv hb] at e
    exact e
  · obtain ⟨q, h1, h2⟩ := f3 v hv hb o ho hp hx
    show lv vars into bases lo kn of v = _
    rw [h2]
    simp only [h1]
  · obtain ⟨q, h1, _⟩ := f3 v hv hob o ho ho2 hox
    obtain ⟨q2, h3, _⟩ := f3 u hu hpb p hp hp2 hpx
    simp only [h1, h3] at e
    have e2 : q = q2 := by omega
    subst e2
    exact ob_inj hG hK _ (Nat.le_refl _) o p q h1 h3
  · have hk := (hK.at_ v hv).1
    have two : ∀ {L : List Int} {a b : Int}, a ∈ L → b ∈ L → a ≠ b → 1 < L.length := fun {L a b} h1 h2 h3 => by
      match L, h1, h2 with
      | [c], h1, h2 => simp at h1 h2; exact absurd (h1.trans h2.symm) h3
      | _ :: _ :: _, _, _ => simp
    have hF : Fresh (seenK into kn of (labN vars into bases lo kn of (of v)).lab (of v)) (ownK vars bases kn (of v)) (looK lo kn (of v)) := by
      rcases h with h | ⟨o, p, h1, h2, h3⟩ | ⟨x, y, h1, h2, h3, h4, h5⟩ | ⟨o, x, h1, h2, h3⟩
      · exact .inl ((hB v hv).2 h)
      · exact .inr (.inl (two ((hW v hv o).2 h2) ((hW v hv p).2 h3) h1))
      · exact .inr (.inr (.inl (two ((hS v hv _).2 ⟨x, h1, h3, rfl⟩) ((hS v hv _).2 ⟨y, h2, h4, rfl⟩) h5)))
      · have l1 := List.length_pos_of_mem ((hW v hv o).2 h1)
        have l2 := List.length_pos_of_mem ((hS v hv _).2 ⟨x, h2, h3, rfl⟩)
        unfold Fresh
        omega
    exact fresh_reach hG hK hk hF (of u) (hK.at_ u hu).1 e u (hK.at_ u hu).2 v (hK.at_ v hv).2
  · show Lf vars into bases lo kn of (of v) = Lf vars into bases lo kn of (of u)
    rw [(hK.scc v u hv hu).2 h]
/-- Two such labellings tell the same. -/
theorem SC.sym {v u : Nat} (h : SC into v u) : SC into u v := ⟨h.2, h.1⟩
theorem SC.trans {v u w : Nat} (h : SC into v u) (h2 : SC into u w) : SC into v w := ⟨h.1.trans h2.1, h2.2.trans h.2⟩
theorem inE_lt (hG : GOk vars into bases lo) (hK : KnOk into kn of) {v x : Nat} (hv : v < into.length) (h : InE into v x) : x < into.length ∧ of x < of v ∧ Rg into v x := by
  obtain ⟨w, hw, h1, h2, h3⟩ := h
  have hx := hG.ri w hw _ h2
  have hr : Rg into v x := h1.1.trans (.one (by simpa using ed_of hG.ri hw h2))
  have := hK.ord v x hv (by omega) hr
  refine ⟨by omega, Nat.lt_of_le_of_ne this fun e => h3 ((hK.scc v x hv (by omega)).1 e.symm), hr⟩
theorem inE_of {v u : Nat} (h : Rg into v u) (hv : v < into.length) : ¬ SC into v u → ∃ x, InE into v x ∧ Rg into x u := by
  induction h with
  | refl v => intro h; exact absurd ⟨.refl v, .refl v⟩ h
  | @step v b u e r ih =>
    intro hn
    by_cases hb : SC into v b
    · obtain ⟨x, ⟨w, h1, h2, h3, h4⟩, h5⟩ := ih e.lt.2 fun h => hn (hb.trans h)
      exact ⟨x, ⟨w, h1, hb.trans h2, h3, fun h => h4 (hb.sym.trans h)⟩, h5⟩
    · obtain ⟨k, h1, h2, h3, h4⟩ := e
      exact ⟨b, ⟨v, hv, ⟨.refl v, .refl v⟩, by rw [← h4, getElem!_pos _ k h3]; exact List.getElem_mem h3, hb⟩, r⟩
def T2 (vars : Nat) (into bases : List (List Int)) (lo : List Bool) (l : Nat → Int) (v : Nat) : Prop := ¬ BE into lo v ∧ (∀ o, ¬ WE vars into bases v o) ∧ ∃ x, InE into v x ∧ l x ≠ -1 ∧ ∀ y, InE into v y → l y ≠ -1 → l y = l x
def T3 (vars : Nat) (into bases : List (List Int)) (lo : List Bool) (l : Nat → Int) (v : Nat) : Prop := ¬ BE into lo v ∧ ∃ o, WE vars into bases v o ∧ (∀ p, WE vars into bases v p → p = o) ∧ ∀ x, InE into v x → l x = -1
def T4 (vars : Nat) (into bases : List (List Int)) (lo : List Bool) (l : Nat → Int) (v : Nat) : Prop := BE into lo v ∨ (∃ o p, o ≠ p ∧ WE vars into bases v o ∧ WE vars into bases v p) ∨ (∃ x y, InE into v x ∧ InE into v y ∧ l x ≠ -1 ∧ l y ≠ -1 ∧ l x ≠ l y) ∨ (∃ o x, WE vars into bases v o ∧ InE into v x ∧ l x ≠ -1)
theorem cls (hG : GOk vars into bases lo) (hK : KnOk into kn of) {l : Nat → Int} (h1 : ∀ v, v < into.length → (l v = -1 ↔ ∀ j, ¬ GS vars 0 into bases lo v j)) {v : Nat} (hv : v < into.length) (hl : l v ≠ -1) : T2 vars into bases lo l v ∨ T3 vars into bases lo l v ∨ T4 vars into bases lo l v := by
  by_cases hB : BE into lo v
  · exact .inr (.inr (.inl hB))
  by_cases hW : ∃ o, WE vars into bases v o
  · obtain ⟨o, ho⟩ := hW
    by_cases h2 : ∀ p, WE vars into bases v p → p = o
    · by_cases h3 : ∀ x, InE into v x → l x = -1
      · exact .inr (.inl ⟨hB, o, ho, h2, h3⟩)
      · obtain ⟨x, h4⟩ := Classical.not_forall.1 h3
        obtain ⟨h4, h5⟩ := Classical.not_imp.1 h4
        exact .inr (.inr (.inr (.inr (.inr ⟨o, x, ho, h4, h5⟩))))
    · obtain ⟨p, h4⟩ := Classical.not_forall.1 h2
      obtain ⟨h4, h5⟩ := Classical.not_imp.1 h4
      exact .inr (.inr (.inr (.inl ⟨p, o, h5, h4, ho⟩)))
  · have hW := not_exists.1 hW
    by_cases h3 : ∃ x, InE into v x ∧ l x ≠ -1
    · obtain ⟨x, h4, h5⟩ := h3
      by_cases h6 : ∀ y, InE into v y → l y ≠ -1 → l y = l x
      · exact .inl ⟨hB, hW, x, h4, h5, h6⟩
      · obtain ⟨y, h7⟩ := Classical.not_forall.1 h6
        obtain ⟨h7, h8⟩ := Classical.not_imp.1 h7
        obtain ⟨h8, h9⟩ := Classical.not_imp.1 h8
        exact .inr (.inr (.inr (.inr (.inl ⟨y, x, h7, h4, h8, h5, h9⟩))))
    · refine absurd ((h1 v hv).2 fun j hj => ?_) hl
      obtain ⟨u, hr, hj⟩ := hj
      by_cases hs : SC into v u
      · have hu := hs.lt hv
        rcases hj with ⟨h4, h5⟩ | ⟨h4, _⟩
        · exact hW _ ⟨u, hu, hs, h4, h5⟩
        · exact hB ⟨u, hu, hs, h4⟩
      · obtain ⟨x, h4, h5⟩ := inE_of hr hv hs
        have hx := inE_lt hG hK hv h4
        have h6 : l x = -1 := Classical.byContradiction fun h => h3 ⟨x, h4, h⟩
        exact (h1 x hx.1).1 h6 j ⟨u, h5, hj⟩
theorem lch_same (hG : GOk vars into bases lo) (hK : KnOk into kn of) {l m : Nat → Int} (hL : LCh vars into bases lo l) (hM : LCh vars into bases lo m) :
    ∀ v u, v < into.length → u < into.length → (l v = l u ↔ m v = m u) := by
  have hz : ∀ v, v < into.length → (l v = -1 ↔ m v = -1) := fun v hv => (hL.t1 v hv).trans (hM.t1 v hv).symm
  suffices H : ∀ k v u, v < into.length → u < into.length → of v < k → of u < k → (l v = l u ↔ m v = m u) from fun v u hv hu => H (of v + of u + 1) v u hv hu (by omega) (by omega)
  intro k
  induction k with
  | zero => intro v u _ _ h; omega
  | succ k ih =>
    -- one at the top, the other one below
    suffices H : ∀ v u, v < into.length → u < into.length → of v = k → of u < k → (l v = l u ↔ m v = m u) by
      intro v u hv hu h1 h2
      by_cases e1 : of v = k
      · by_cases e2 : of u = k
        · have hs := (hK.scc v u hv hu).1 (by omega)
          exact ⟨fun _ => hM.same v u hv hu hs, fun _ => hL.same v u hv hu hs⟩
        · exact H v u hv hu e1 (by omega)
      · by_cases e2 : of u = k
        · have := H u v hu hv e2 (by omega)
          exact ⟨fun h => (this.1 h.symm).symm, fun h => (this.2 h.symm).symm⟩
        · exact ih v u hv hu (by omega) (by omega)
    intro v u hv hu hvk huk
    by_cases z1 : l v = -1
    · have z2 := (hz v hv).1 z1
      rw [z1, z2]
      exact ⟨fun h => ((hz u hu).1 h.symm).symm, fun h => ((hz u hu).2 h.symm).symm⟩
    have z2 : m v ≠ -1 := fun h => z1 ((hz v hv).2 h)
    have hin : ∀ w, w < into.length → of w ≤ k → ∀ x, InE into w x → x < into.length ∧ of x < k := fun w hw hwk x hx => by
      have := inE_lt hG hK hw hx
      omega
    have up : ∀ w, w < into.length → of w ≤ k → (T2 vars into bases lo l w → T2 vars into bases lo m w) ∧ (T3 vars into bases lo l w → T3 vars into bases lo m w) ∧ (T4 vars into bases lo l w → T4 vars into bases lo m w) := fun w hw hwk => by
      refine ⟨fun ⟨h1, h2, x, h3, h4, h5⟩ => ?_, fun ⟨h1, o, h2, h3, h4⟩ => ⟨h1, o, h2, h3, fun x hx => (hz x (hin w hw hwk x hx).1).1 (h4 x hx)⟩, fun h => ?_⟩
      · obtain ⟨hx1, hx2⟩ := hin w hw hwk x h3
        refine ⟨h1, h2, x, h3, fun h => h4 ((hz x hx1).2 h), fun y hy hym => ?_⟩
        obtain ⟨hy1, hy2⟩ := hin w hw hwk y hy
        exact (ih y x hy1 hx1 hy2 hx2).1 (h5 y hy fun h => hym ((hz y hy1).1 h))
      · rcases h with h | h | ⟨x, y, h1, h2, h3, h4, h5⟩ | ⟨o, x, h1, h2, h3⟩
        · exact .inl h
        · exact .inr (.inl h)
        · obtain ⟨hx1, hx2⟩ := hin w hw hwk x h1
          obtain ⟨hy1, hy2⟩ := hin w hw hwk y h2
          exact .inr (.inr (.inl ⟨x, y, h1, h2, fun h => h3 ((hz x hx1).2 h), fun h => h4 ((hz y hy1).2 h), fun h => h5 ((ih x y hx1 hy1 hx2 hy2).2 h)⟩))
        · obtain ⟨hx1, hx2⟩ := hin w hw hwk x h2
          exact .inr (.inr (.inr ⟨o, x, h1, h2, fun h => h3 ((hz x hx1).2 h)⟩))
    have hno : ∀ {q : Nat → Int}, LCh vars into bases lo q → T4 vars into bases lo q v → q v ≠ q u := fun {q} hq h4 e => by
      have := hK.ord u v hu hv (hq.t4 v hv h4 u hu e.symm)
      omega
    obtain ⟨u2, u3, u4⟩ := up v hv (by omega)
    rcases cls hG hK hL.t1 hv z1 with h | h | h
    · obtain ⟨h1, h2, x, h3, h4, h5⟩ := id h
      obtain ⟨hx1, hx2⟩ := hin v hv (by omega) x h3
      have e1 := hL.t2 v hv h1 h2 x h3 h4 h5
      have e2 := hM.t2 v hv h1 h2 x h3 (fun h => h4 ((hz x hx1).2 h)) fun y hy hym => by
        obtain ⟨hy1, hy2⟩ := hin v hv (by omega) y hy
        exact (ih y x hy1 hx1 hy2 hx2).1 (h5 y hy fun h => hym ((hz y hy1).1 h))
      rw [e1, e2]
      exact ih x u hx1 hu hx2 huk
    · obtain ⟨b1, o, b2, b3, b4⟩ := h
      obtain ⟨_, o', c2, c3, c4⟩ := u3 ⟨b1, o, b2, b3, b4⟩
      have eo : o' = o := b3 o' c2
      subst eo
      obtain ⟨Q, q1, q2⟩ := hL.t3
      obtain ⟨R, r1, r2⟩ := hM.t3
      have ev := q1 v hv b1 o' b2 b3 b4
      have em := r1 v hv b1 o' b2 b3 c4
      suffices H : ∀ j u, u < into.length → of u < j → of u < k → (l v = l u ↔ m v = m u) from H (of u + 1) u hu (by omega) huk
      clear hno u2 u3 u4 hu huk
      intro j
      induction j with
      | zero => intro u _ h; omega
      | succ j ihj =>
        intro u hu huj huk
        by_cases y1 : l u = -1
        · have y2 := (hz u hu).1 y1
          rw [y1, y2]
          exact ⟨fun h => absurd h z1, fun h => absurd h z2⟩
        have no4 : ∀ {q : Nat → Int}, LCh vars into bases lo q → (∀ x, InE into v x → q x = -1) → q u ≠ -1 → T4 vars into bases lo q u → q v ≠ q u := fun {q} hq hx hqu h4 e => by
          have hr := hq.t4 u hu h4 v hv e
          obtain ⟨x, hx1, hx2⟩ := inE_of hr hv fun hs => by
            have := (hK.scc v u hv hu).2 hs
            omega
          have hxl := (inE_lt hG hK hv hx1).1
          exact hqu ((hq.t1 u hu).2 fun j hj => (hq.t1 x hxl).1 (hx x hx1) j (GS.rg hx2 hj))
        have y2 : m u ≠ -1 := fun h => y1 ((hz u hu).2 h)
        obtain ⟨_, _, u4⟩ := up u hu (by omega)
        rcases cls hG hK hL.t1 hu y1 with h | h | h
        · obtain ⟨h1, h2, x, h3, h4, h5⟩ := h
          obtain ⟨hx1, hx2⟩ := hin u hu (by omega) x h3
          have hxl := inE_lt hG hK hu h3
          have e1 := hL.t2 u hu h1 h2 x h3 h4 h5
          have e2 := hM.t2 u hu h1 h2 x h3 (fun h => h4 ((hz x hx1).2 h)) fun y hy hym => by
            obtain ⟨hy1, hy2⟩ := hin u hu (by omega) y hy
            exact (ih y x hy1 hx1 hy2 hx2).1 (h5 y hy fun h => hym ((hz y hy1).1 h))
          rw [e1, e2]
          exact ihj x hx1 (by omega) hx2
        · obtain ⟨d1, p, d2, d3, d4⟩ := h
          have d5 : ∀ x, InE into u x → m x = -1 := fun x hx => (hz x (inE_lt hG hK hu hx).1).1 (d4 x hx)
          have eu := q1 u hu d1 p d2 d3 d4
          have emu := r1 u hu d1 p d2 d3 d5
          constructor
          · intro e
            have := q2 v u hv hu o' p b2 b3 b4 b1 d2 d3 d4 d1 (by rw [← ev, ← eu]; exact e)
            rw [em, emu, this]
          · intro e
            have := r2 v u hv hu o' p b2 b3 c4 b1 d2 d3 d5 d1 (by rw [← em, ← emu]; exact e)
            rw [ev, eu, this]
        · exact ⟨fun e => absurd e (no4 hL b4 y1 h), fun e => absurd e (no4 hM c4 y2 (u4 h))⟩
    · exact ⟨fun e => absurd e (hno hL h), fun e => absurd e (hno hM (u4 h))⟩
end
end Go.Proofs.Ytjggjhgbobmkhaa

/- The walk of GraphOf. -/
namespace Go.Proofs.Ytjggjhgbobmkhaa
open Go.RowKit
set_option linter.unusedVariables false
set_option linter.unusedSimpArgs false
set_option maxRecDepth 100000
end Go.Proofs.Ytjggjhgbobmkhaa

/- The walk of GraphStores. -/
namespace Go.Proofs.Ytjggjhgbobmkhaa
open Go.RowKit
set_option linter.unusedVariables false
set_option linter.unusedSimpArgs false
set_option maxRecDepth 100000
end Go.Proofs.Ytjggjhgbobmkhaa

/- The last steps of a law's row, once for all laws: arguments opened, what is read again. -/
namespace Go.Proofs.Ytjggjhgbobmkhaa
open Go.ChangeShapes Go.WideShapes Go.ChangeAt Go.RowKit
set_option linter.unusedVariables false
set_option linter.unusedSimpArgs false
set_option maxRecDepth 100000
section
variable {H : Type} {enc : TypeId × Value → H} {W : World} {base : Nat}
theorem open_D {α : Type} {D : Dec α} {t : TypeId} {v : Value} {d : DataW H} {p : List MemPlace} (h : DataW.Trod enc Try.prog W 0 (fun _ => true) true t v d p) (ho : Opens enc Try.prog W 0 (fun _ => true) true t D) : ∃ a, D W v.cells.toList a := trod_of_Trod h ho
theorem open_Draft {v : Value} {d : DataW H} {p : List MemPlace} (hv : Value.okWide Try.prog W .any base 24 v) (h : DataW.Trod enc Try.prog W 0 (fun _ => true) true 24 v d p) :
    ∃ (s : Draft) (A : Option Addr) (c : Nat), v = .agg #[.int .u8 s.vars, .int .u8 s.cells, .slice A s.acts.length c] ∧ RActs W A s.acts ∧ (0 ≤ s.vars ∧ s.vars ≤ 255) ∧ 0 ≤ s.cells ∧ s.cells ≤ 255 := by
  obtain ⟨cs, rfl, _⟩ := okWide_struct Try.underlying24 hv
  obtain ⟨s, A, c, hc, h1, h2⟩ := open_D h opens_Draft
  refine ⟨s, A, c, ?_, h1, h2⟩
  simp only [Value.cells] at hc
  rw [← hc]
end
end Go.Proofs.Ytjggjhgbobmkhaa
