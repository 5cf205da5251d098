/- Several texts of one claim in one file: PU19 PT19 PW19 L1502 L1503 R0. -/
import Derived.Test.YtjggjhgbobmkhaaC21
import Derived.Test.YtjggjhgbobmkhaaC10
import Derived.Test.YtjggjhgbobmkhaaC13
import Derived.Test.YtjggjhgbobmkhaaC1
/- Labels by the quick way tell one partition, however knots are numbered: plain. -/
namespace Go.Proofs.Ytjggjhgbobmkhaa
set_option linter.unusedVariables false
set_option linter.unusedSimpArgs false
section
variable {vars : Nat} {into bases : List (List Int)} {lo : List Bool} {kn : List (List Nat)} {of : Nat → Nat}
def SC (into : List (List Int)) (v u : Nat) : Prop := Rg into v u ∧ Rg into u v
def InE (into : List (List Int)) (v x : Nat) : Prop := ∃ w, w < into.length ∧ SC into v w ∧ (x : Int) ∈ into[w]! ∧ ¬ SC into v x
def WE (vars : Nat) (into bases : List (List Int)) (v : Nat) (o : Int) : Prop := ∃ w, w < into.length ∧ SC into v w ∧ w < vars ∧ o ∈ bases[w]!
def BE (into : List (List Int)) (lo : List Bool) (v : Nat) : Prop := ∃ w, w < into.length ∧ SC into v w ∧ lo[w]! = true
/-- What is true of such labels. -/
structure LCh (vars : Nat) (into bases : List (List Int)) (lo : List Bool) (l : Nat → Int) : Prop where
  t1 : ∀ v, v < into.length → (l v = -1 ↔ ∀ j, ¬ GS vars 0 into bases lo v j)
  t2 : ∀ v, v < into.length → ¬ BE into lo v → (∀ o, ¬ WE vars into bases v o) → ∀ x, InE into v x → l x ≠ -1 → (∀ y, InE into v y → l y ≠ -1 → l y = l x) → l v = l x
  t3 : ∃ Q : Int → Int, (∀ v, v < into.length → ¬ BE into lo v → ∀ o, WE vars into bases v o → (∀ p, WE vars into bases v p → p = o) → (∀ x, InE into v x → l x = -1) → l v = Q o) ∧
    ∀ v u, v < into.length → u < into.length → ∀ o p, WE vars into bases v o → (∀ r, WE vars into bases v r → r = o) → (∀ x, InE into v x → l x = -1) → ¬ BE into lo v → WE vars into bases u p → (∀ r, WE vars into bases u r → r = p) → (∀ x, InE into u x → l x = -1) → ¬ BE into lo u → Q o = Q p → o = p
  t4 : ∀ v, v < into.length → (BE into lo v ∨ (∃ o p, o ≠ p ∧ WE vars into bases v o ∧ WE vars into bases v p) ∨ (∃ x y, InE into v x ∧ InE into v y ∧ l x ≠ -1 ∧ l y ≠ -1 ∧ l x ≠ l y) ∨ (∃ o x, WE vars into bases v o ∧ InE into v x ∧ l x ≠ -1)) → ∀ u, u < into.length → l u = l v → Rg into u v
  same : ∀ v u, v < into.length → u < into.length → SC into v u → l v = l u
theorem rg_lt {v u : Nat} (h : Rg into v u) (hv : v < into.length) : u < into.length := h.closed (P := fun x => x < into.length) (fun a b _ e => e.lt.2) hv
theorem SC.lt {v u : Nat} (h : SC into v u) (hv : v < into.length) : u < into.length := rg_lt h.1 hv
theorem lch_of (hG : GOk vars into bases lo) (hK : KnOk into kn of) : LCh vars into bases lo (fun v => lv vars into bases lo kn of v) := by
  have hmem : ∀ v, v < into.length → ∀ w, w ∈ kn[of v]! ↔ w < into.length ∧ SC into v w := fun v hv w => by
    constructor
    · intro hw
      obtain ⟨h1, h2⟩ := (hK.kn (of v) (hK.at_ v hv).1).2.2 w hw
      exact ⟨h1, (hK.scc v w hv h1).1 h2.symm⟩
    · rintro ⟨h1, h2⟩
      rw [(hK.scc v w hv h1).2 h2]
      exact (hK.at_ w h1).2
  have hne : ∀ v x, v < into.length → x < into.length → (of x ≠ of v ↔ ¬ SC into v x) := fun v x hv hx => not_congr ⟨fun h => (hK.scc v x hv hx).1 h.symm, fun h => ((hK.scc v x hv hx).2 h).symm⟩
  have hlab : ∀ v, v < into.length → ∀ w ∈ kn[of v]!, ∀ x ∈ into[w]!, of x.toNat ≠ of v → (labN vars into bases lo kn of (of v)).lab (of x.toNat) = lv vars into bases lo kn of x.toNat := fun v hv w hw x hx hxn => by
    have hp := (hK.at_ v hv).1
    have := (hK.down hG.ri hp hw).2 x hx
    rw [lab_fin (Nat.lt_of_le_of_ne this hxn) (Nat.le_of_lt hp)]
  have hS : ∀ v, v < into.length → ∀ y, y ∈ seenK into kn of (labN vars into bases lo kn of (of v)).lab (of v) ↔ ∃ x, InE into v x ∧ lv vars into bases lo kn of x ≠ -1 ∧ y = lv vars into bases lo kn of x := fun v hv y => by
    rw [mem_seenK]
    constructor
    · rintro ⟨w, hw, x, hx, h1, h2, h3⟩
      obtain ⟨hw1, hw2⟩ := (hmem v hv w).1 hw
      have hx2 := hG.ri w hw1 x hx
      rw [hlab v hv w hw x hx h1] at h2 h3
      exact ⟨x.toNat, ⟨w, hw1, hw2, by rw [show ((x.toNat : Nat) : Int) = x by omega]; exact hx, (hne v x.toNat hv (by omega)).1 h1⟩, h2, h3⟩
    · rintro ⟨x, ⟨w, hw1, hw2, hx, hns⟩, h2, h3⟩
      have hx2 := hG.ri w hw1 x hx
      have hw := (hmem v hv w).2 ⟨hw1, hw2⟩
      have h1 : of (x : Int).toNat ≠ of v := by rw [Int.toNat_natCast]; exact (hne v x hv (by omega)).2 hns
      have e := hlab v hv w hw (x : Int) hx h1
      rw [Int.toNat_natCast] at e h1
      exact ⟨w, hw, (x : Int), hx, by rw [Int.toNat_natCast]; exact h1, by rw [Int.toNat_natCast, e]; exact h2, by rw [Int.toNat_natCast, e]; exact h3⟩
  have hW : ∀ v, v < into.length → ∀ o, o ∈ ownK vars bases kn (of v) ↔ WE vars into bases v o := fun v hv o => by
    rw [mem_ownK]
    exact ⟨fun ⟨w, hw, h1, h2⟩ => ⟨w, ((hmem v hv w).1 hw).1, ((hmem v hv w).1 hw).2, h1, h2⟩, fun ⟨w, h0, hw, h1, h2⟩ => ⟨w, (hmem v hv w).2 ⟨h0, hw⟩, h1, h2⟩⟩
  have hB : ∀ v, v < into.length → (looK lo kn (of v) = true ↔ BE into lo v) := fun v hv => by
    rw [looK_iff]
    exact ⟨fun ⟨w, hw, h1⟩ => ⟨w, ((hmem v hv w).1 hw).1, ((hmem v hv w).1 hw).2, h1⟩, fun ⟨w, h0, hw, h1⟩ => ⟨w, (hmem v hv w).2 ⟨h0, hw⟩, h1⟩⟩
  have hWn : ∀ v, v < into.length → (ownK vars bases kn (of v)).Nodup := fun v hv => (fold_inv (p := OwnP) _ _ ⟨.nil, by simp⟩ fun S a ha hS => ownV_ok (fun v hv => hG.rb v (by rw [hG.nb]; exact hv)) hS).1
  have hSn : ∀ v, v < into.length → (seenK into kn of (labN vars into bases lo kn of (of v)).lab (of v)).Nodup := fun v hv => (seenK_ok hG hK (hK.at_ v hv).1 (labN_ok hG hK (of v) (Nat.le_of_lt (hK.at_ v hv).1))).1
  have hLf : ∀ v, v < into.length → lv vars into bases lo kn of v = (labelF (seenK into kn of (labN vars into bases lo kn of (of v)).lab (of v)) (ownK vars bases kn (of v)) (looK lo kn (of v)) (labN vars into bases lo kn of (of v)).ob (labN vars into bases lo kn of (of v)).nx).1 := fun v hv => Lf_eq (hK.at_ v hv).1
  have one : ∀ {L : List Int} {a : Int}, L.Nodup → a ∈ L → (∀ b ∈ L, b = a) → L = [a] := fun {L a} hn ha hb => by
    match L, hn, ha, hb with
    | [b], _, ha, _ => simp at ha; rw [ha]
    | b :: c :: r, hn, _, hb =>
      have h1 := hb b (by simp)
      have h2 := hb c (by simp)
      have := (List.nodup_cons.1 hn).1
      rw [h1, h2] at this
      simp at this
  have bf : ∀ v, v < into.length → ¬ BE into lo v → looK lo kn (of v) = false := fun v hv h => Bool.eq_false_iff.2 fun hb => h ((hB v hv).1 hb)
  have f3 : ∀ v, v < into.length → ¬ BE into lo v → ∀ o, WE vars into bases v o → (∀ p, WE vars into bases v p → p = o) → (∀ x, InE into v x → lv vars into bases lo kn of x = -1) → ∃ q : Nat, (labN vars into bases lo kn of kn.length).ob o = some q ∧ lv vars into bases lo kn of v = (q : Int) := fun v hv hb o ho hp hx => by
    have hk := (hK.at_ v hv).1
    have e := hLf v hv
    have hSe : seenK into kn of (labN vars into bases lo kn of (of v)).lab (of v) = [] := nil_of_no fun y hy => by
      obtain ⟨x, h1, h2, _⟩ := (hS v hv y).1 hy
      exact h2 (hx x h1)
    have hWe : ownK vars bases kn (of v) = [o] := one (hWn v hv) ((hW v hv o).2 ho) fun b hb => hp b ((hW v hv b).1 hb)
    have eob : (labN vars into bases lo kn of (of v + 1)).ob o = (labelF (seenK into kn of (labN vars into bases lo kn of (of v)).lab (of v)) (ownK vars bases kn (of v)) (looK lo kn (of v)) (labN vars into bases lo kn of (of v)).ob (labN vars into bases lo kn of (of v)).nx).2.2 o := rfl
    rw [hSe, hWe, bf v hv hb] at e eob
    obtain ⟨d, hd⟩ : ∃ d, kn.length = of v + 1 + d := ⟨kn.length - (of v + 1), by omega⟩
    cases hq : (labN vars into bases lo kn of (of v)).ob o with
    | some q =>
      have h1 : (labelF [] [o] false (labN vars into bases lo kn of (of v)).ob (labN vars into bases lo kn of (of v)).nx) = ((q : Int), (labN vars into bases lo kn of (of v)).nx, (labN vars into bases lo kn of (of v)).ob) := by
        unfold labelF
        rw [if_neg (by simp)]
        simp only [labelO, hq]
      rw [h1] at e eob
      refine ⟨q, ?_, e⟩
      rw [hd]
      exact ob_keep (eob.trans hq) d
    | none =>
      have h1 : (labelF [] [o] false (labN vars into bases lo kn of (of v)).ob (labN vars into bases lo kn of (of v)).nx) = (((labN vars into bases lo kn of (of v)).nx : Int), (labN vars into bases lo kn of (of v)).nx + 1, putN (labN vars into bases lo kn of (of v)).ob o (labN vars into bases lo kn of (of v)).nx) := by
        unfold labelF
        rw [if_neg (by simp)]
        simp only [labelO, hq]
      rw [h1] at e eob
      refine ⟨_, ?_, e⟩
      rw [hd]
      exact ob_keep (eob.trans (if_pos rfl)) d
  refine ⟨fun v hv => lv_none hG hK 0 hv, fun v hv hb hw x hx hxl hy => ?_, ⟨fun o => match (labN vars into bases lo kn of kn.length).ob o with | some q => (q : Int) | none => -2, fun v hv hb o ho hp hx => ?_, fun v u hv hu o p ho ho2 hox hob hp hp2 hpx hpb e => ?_⟩, fun v hv h u hu e => ?_, fun v u hv hu h => ?_⟩
  · have e := hLf v hv
    have hWe : ownK vars bases kn (of v) = [] := nil_of_no fun y hy => hw y ((hW v hv y).1 hy)
    have hSe := one (hSn v hv) ((hS v hv _).2 ⟨x, hx, hxl, rfl⟩) fun b hb => by
      obtain ⟨y, h1, h2, h3⟩ := (hS v hv b).1 hb
      rw [h3]
      exact hy y h1 h2
    rw [hSe, hWe, bf v hv hb] at e
    exact e
  · obtain ⟨q, h1, h2⟩ := f3 v hv hb o ho hp hx
    show lv vars into bases lo kn of v = _
    rw [h2]
    simp only [h1]
  · obtain ⟨q, h1, _⟩ := f3 v hv hob o ho ho2 hox
    obtain ⟨q2, h3, _⟩ := f3 u hu hpb p hp hp2 hpx
    simp only [h1, h3] at e
    have e2 : q = q2 := by omega
    subst e2
    exact ob_inj hG hK _ (Nat.le_refl _) o p q h1 h3
  · have hk := (hK.at_ v hv).1
    have two : ∀ {L : List Int} {a b : Int}, a ∈ L → b ∈ L → a ≠ b → 1 < L.length := fun {L a b} h1 h2 h3 => by
      match L, h1, h2 with
      | [c], h1, h2 => simp at h1 h2; exact absurd (h1.trans h2.symm) h3
      | _ :: _ :: _, _, _ => simp
    have hF : Fresh (seenK into kn of (labN vars into bases lo kn of (of v)).lab (of v)) (ownK vars bases kn (of v)) (looK lo kn (of v)) := by
      rcases h with h | ⟨o, p, h1, h2, h3⟩ | ⟨x, y, h1, h2, h3, h4, h5⟩ | ⟨o, x, h1, h2, h3⟩
      · exact .inl ((hB v hv).2 h)
      · exact .inr (.inl (two ((hW v hv o).2 h2) ((hW v hv p).2 h3) h1))
      · exact .inr (.inr (.inl (two ((hS v hv _).2 ⟨x, h1, h3, rfl⟩) ((hS v hv _).2 ⟨y, h2, h4, rfl⟩) h5)))
      · have l1 := List.length_pos_of_mem ((hW v hv o).2 h1)
        have l2 := List.length_pos_of_mem ((hS v hv _).2 ⟨x, h2, h3, rfl⟩)
        unfold Fresh
        omega
    exact fresh_reach hG hK hk hF (of u) (hK.at_ u hu).1 e u (hK.at_ u hu).2 v (hK.at_ v hv).2
  · show Lf vars into bases lo kn of (of v) = Lf vars into bases lo kn of (of u)
    rw [(hK.scc v u hv hu).2 h]
/-- Two such labellings tell the same. -/
theorem SC.sym {v u : Nat} (h : SC into v u) : SC into u v := ⟨h.2, h.1⟩
theorem SC.trans {v u w : Nat} (h : SC into v u) (h2 : SC into u w) : SC into v w := ⟨h.1.trans h2.1, h2.2.trans h.2⟩
theorem inE_lt (hG : GOk vars into bases lo) (hK : KnOk into kn of) {v x : Nat} (hv : v < into.length) (h : InE into v x) : x < into.length ∧ of x < of v ∧ Rg into v x := by
  obtain ⟨w, hw, h1, h2, h3⟩ := h
  have hx := hG.ri w hw _ h2
  have hr : Rg into v x := h1.1.trans (.one (by simpa using ed_of hG.ri hw h2))
  have := hK.ord v x hv (by omega) hr
  refine ⟨by omega, Nat.lt_of_le_of_ne this fun e => h3 ((hK.scc v x hv (by omega)).1 e.symm), hr⟩
theorem inE_of {v u : Nat} (h : Rg into v u) (hv : v < into.length) : ¬ SC into v u → ∃ x, InE into v x ∧ Rg into x u := by
  induction h with
  | refl v => intro h; exact absurd ⟨.refl v, .refl v⟩ h
  | @step v b u e r ih =>
    intro hn
    by_cases hb : SC into v b
    · obtain ⟨x, ⟨w, h1, h2, h3, h4⟩, h5⟩ := ih e.lt.2 fun h => hn (hb.trans h)
      exact ⟨x, ⟨w, h1, hb.trans h2, h3, fun h => h4 (hb.sym.trans h)⟩, h5⟩
    · obtain ⟨k, h1, h2, h3, h4⟩ := e
      exact ⟨b, ⟨v, hv, ⟨.refl v, .refl v⟩, by rw [← h4, getElem!_pos _ k h3]; exact List.getElem_mem h3, hb⟩, r⟩
def T2 (vars : Nat) (into bases : List (List Int)) (lo : List Bool) (l : Nat → Int) (v : Nat) : Prop := ¬ BE into lo v ∧ (∀ o, ¬ WE vars into bases v o) ∧ ∃ x, InE into v x ∧ l x ≠ -1 ∧ ∀ y, InE into v y → l y ≠ -1 → l y = l x
def T3 (vars : Nat) (into bases : List (List Int)) (lo : List Bool) (l : Nat → Int) (v : Nat) : Prop := ¬ BE into lo v ∧ ∃ o, WE vars into bases v o ∧ (∀ p, WE vars into bases v p → p = o) ∧ ∀ x, InE into v x → l x = -1
def T4 (vars : Nat) (into bases : List (List Int)) (lo : List Bool) (l : Nat → Int) (v : Nat) : Prop := BE into lo v ∨ (∃ o p, o ≠ p ∧ WE vars into bases v o ∧ WE vars into bases v p) ∨ (∃ x y, InE into v x ∧ InE into v y ∧ l x ≠ -1 ∧ l y ≠ -1 ∧ l x ≠ l y) ∨ (∃ o x, WE vars into bases v o ∧ InE into v x ∧ l x ≠ -1)
theorem cls (hG : GOk vars into bases lo) (hK : KnOk into kn of) {l : Nat → Int} (h1 : ∀ v, v < into.length → (l v = -1 ↔ ∀ j, ¬ GS vars 0 into bases lo v j)) {v : Nat} (hv : v < into.length) (hl : l v ≠ -1) : T2 vars into bases lo l v ∨ T3 vars into bases lo l v ∨ T4 vars into bases lo l v := by
  by_cases hB : BE into lo v
  · exact .inr (.inr (.inl hB))
  by_cases hW : ∃ o, WE vars into bases v o
  · obtain ⟨o, ho⟩ := hW
    by_cases h2 : ∀ p, WE vars into bases v p → p = o
    · by_cases h3 : ∀ x, InE into v x → l x = -1
      · exact .inr (.inl ⟨hB, o, ho, h2, h3⟩)
      · obtain ⟨x, h4⟩ := Classical.not_forall.1 h3
        obtain ⟨h4, h5⟩ := Classical.not_imp.1 h4
        exact .inr (.inr (.inr (.inr (.inr ⟨o, x, ho, h4, h5⟩))))
    · obtain ⟨p, h4⟩ := Classical.not_forall.1 h2
      obtain ⟨h4, h5⟩ := Classical.not_imp.1 h4
      exact .inr (.inr (.inr (.inl ⟨p, o, h5, h4, ho⟩)))
  · have hW := not_exists.1 hW
    by_cases h3 : ∃ x, InE into v x ∧ l x ≠ -1
    · obtain ⟨x, h4, h5⟩ := h3
      by_cases h6 : ∀ y, InE into v y → l y ≠ -1 → l y = l x
      · exact .inl ⟨hB, hW, x, h4, h5, h6⟩
      · obtain ⟨y, h7⟩ := Classical.not_forall.1 h6
        obtain ⟨h7, h8⟩ := Classical.not_imp.1 h7
        obtain ⟨h8, h9⟩ := Classical.not_imp.1 h8
        exact .inr (.inr (.inr (.inr (.inl ⟨y, x, h7, h4, h8, h5, h9⟩))))
    · refine absurd ((h1 v hv).2 fun j hj => ?_) hl
      obtain ⟨u, hr, hj⟩ := hj
      by_cases hs : SC into v u
      · have hu := hs.lt hv
        rcases hj with ⟨h4, h5⟩ | ⟨h4, _⟩
        · exact hW _ ⟨u, hu, hs, h4, h5⟩
        · exact hB ⟨u, hu, hs, h4⟩
      · obtain ⟨x, h4, h5⟩ := inE_of hr hv hs
        have hx := inE_lt hG hK hv h4
        have h6 : l x = -1 := Classical.byContradiction fun h => h3 ⟨x, h4, h⟩
        exact (h1 x hx.1).1 h6 j ⟨u, h5, hj⟩
theorem lch_same (hG : GOk vars into bases lo) (hK : KnOk into kn of) {l m : Nat → Int} (hL : LCh vars into bases lo l) (hM : LCh vars into bases lo m) :
    ∀ v u, v < into.length → u < into.length → (l v = l u ↔ m v = m u) := by
  have hz : ∀ v, v < into.length → (l v = -1 ↔ m v = -1) := fun v hv => (hL.t1 v hv).trans (hM.t1 v hv).symm
  suffices H : ∀ k v u, v < into.length → u < into.length → of v < k → of u < k → (l v = l u ↔ m v = m u) from fun v u hv hu => H (of v + of u + 1) v u hv hu (by omega) (by omega)
  intro k
  induction k with
  | zero => intro v u _ _ h; omega
  | succ k ih =>
    -- one at the top, the other one below
    suffices H : ∀ v u, v < into.length → u < into.length → of v = k → of u < k → (l v = l u ↔ m v = m u) by
      intro v u hv hu h1 h2
      by_cases e1 : of v = k
      · by_cases e2 : of u = k
        · have hs := (hK.scc v u hv hu).1 (by omega)
          exact ⟨fun _ => hM.same v u hv hu hs, fun _ => hL.same v u hv hu hs⟩
        · exact H v u hv hu e1 (by omega)
      · by_cases e2 : of u = k
        · have := H u v hu hv e2 (by omega)
          exact ⟨fun h => (this.1 h.symm).symm, fun h => (this.2 h.symm).symm⟩
        · exact ih v u hv hu (by omega) (by omega)
    intro v u hv hu hvk huk
    by_cases z1 : l v = -1
    · have z2 := (hz v hv).1 z1
      rw [z1, z2]
      exact ⟨fun h => ((hz u hu).1 h.symm).symm, fun h => ((hz u hu).2 h.symm).symm⟩
    have z2 : m v ≠ -1 := fun h => z1 ((hz v hv).2 h)
    have hin : ∀ w, w < into.length → of w ≤ k → ∀ x, InE into w x → x < into.length ∧ of x < k := fun w hw hwk x hx => by
      have := inE_lt hG hK hw hx
      omega
    have up : ∀ w, w < into.length → of w ≤ k → (T2 vars into bases lo l w → T2 vars into bases lo m w) ∧ (T3 vars into bases lo l w → T3 vars into bases lo m w) ∧ (T4 vars into bases lo l w → T4 vars into bases lo m w) := fun w hw hwk => by
      refine ⟨fun ⟨h1, h2, x, h3, h4, h5⟩ => ?_, fun ⟨h1, o, h2, h3, h4⟩ => ⟨h1, o, h2, h3, fun x hx => (hz x (hin w hw hwk x hx).1).1 (h4 x hx)⟩, fun h => ?_⟩
      · obtain ⟨hx1, hx2⟩ := hin w hw hwk x h3
        refine ⟨h1, h2, x, h3, fun h => h4 ((hz x hx1).2 h), fun y hy hym => ?_⟩
        obtain ⟨hy1, hy2⟩ := hin w hw hwk y hy
        exact (ih y x hy1 hx1 hy2 hx2).1 (h5 y hy fun h => hym ((hz y hy1).1 h))
      · rcases h with h | h | ⟨x, y, h1, h2, h3, h4, h5⟩ | ⟨o, x, h1, h2, h3⟩
        · exact .inl h
        · exact .inr (.inl h)
        · obtain ⟨hx1, hx2⟩ := hin w hw hwk x h1
          obtain ⟨hy1, hy2⟩ := hin w hw hwk y h2
          exact .inr (.inr (.inl ⟨x, y, h1, h2, fun h => h3 ((hz x hx1).2 h), fun h => h4 ((hz y hy1).2 h), fun h => h5 ((ih x y hx1 hy1 hx2 hy2).2 h)⟩))
        · obtain ⟨hx1, hx2⟩ := hin w hw hwk x h2
          exact .inr (.inr (.inr ⟨o, x, h1, h2, fun h => h3 ((hz x hx1).2 h)⟩))
    have hno : ∀ {q : Nat → Int}, LCh vars into bases lo q → T4 vars into bases lo q v → q v ≠ q u := fun {q} hq h4 e => by
      have := hK.ord u v hu hv (hq.t4 v hv h4 u hu e.symm)
      omega
    obtain ⟨u2, u3, u4⟩ := up v hv (by omega)
    rcases cls hG hK hL.t1 hv z1 with h | h | h
    · obtain ⟨h1, h2, x, h3, h4, h5⟩ := id h
      obtain ⟨hx1, hx2⟩ := hin v hv (by omega) x h3
      have e1 := hL.t2 v hv h1 h2 x h3 h4 h5
      have e2 := hM.t2 v hv h1 h2 x h3 (fun h => h4 ((hz x hx1).2 h)) fun y hy hym => by
        obtain ⟨hy1, hy2⟩ := hin v hv (by omega) y hy
        exact (ih y x hy1 hx1 hy2 hx2).1 (h5 y hy fun h => hym ((hz y hy1).1 h))
      rw [e1, e2]
      exact ih x u hx1 hu hx2 huk
    · obtain ⟨b1, o, b2, b3, b4⟩ := h
      obtain ⟨_, o', c2, c3, c4⟩ := u3 ⟨b1, o, b2, b3, b4⟩
      have eo : o' = o := b3 o' c2
      subst eo
      obtain ⟨Q, q1, q2⟩ := hL.t3
      obtain ⟨R, r1, r2⟩ := hM.t3
      have ev := q1 v hv b1 o' b2 b3 b4
      have em := r1 v hv b1 o' b2 b3 c4
      suffices H : ∀ j u, u < into.length → of u < j → of u < k → (l v = l u ↔ m v = m u) from H (of u + 1) u hu (by omega) huk
      clear hno u2 u3 u4 hu huk
      intro j
      induction j with
      | zero => intro u _ h; omega
      | succ j ihj =>
        intro u hu huj huk
        by_cases y1 : l u = -1
        · have y2 := (hz u hu).1 y1
          rw [y1, y2]
          exact ⟨fun h => absurd h z1, fun h => absurd h z2⟩
        have no4 : ∀ {q : Nat → Int}, LCh vars into bases lo q → (∀ x, InE into v x → q x = -1) → q u ≠ -1 → T4 vars into bases lo q u → q v ≠ q u := fun {q} hq hx hqu h4 e => by
          have hr := hq.t4 u hu h4 v hv e
          obtain ⟨x, hx1, hx2⟩ := inE_of hr hv fun hs => by
            have := (hK.scc v u hv hu).2 hs
            omega
          have hxl := (inE_lt hG hK hv hx1).1
          exact hqu ((hq.t1 u hu).2 fun j hj => (hq.t1 x hxl).1 (hx x hx1) j (GS.rg hx2 hj))
        have y2 : m u ≠ -1 := fun h => y1 ((hz u hu).2 h)
        obtain ⟨_, _, u4⟩ := up u hu (by omega)
        rcases cls hG hK hL.t1 hu y1 with h | h | h
        · obtain ⟨h1, h2, x, h3, h4, h5⟩ := h
          obtain ⟨hx1, hx2⟩ := hin u hu (by omega) x h3
          have hxl := inE_lt hG hK hu h3
          have e1 := hL.t2 u hu h1 h2 x h3 h4 h5
          have e2 := hM.t2 u hu h1 h2 x h3 (fun h => h4 ((hz x hx1).2 h)) fun y hy hym => by
            obtain ⟨hy1, hy2⟩ := hin u hu (by omega) y hy
            exact (ih y x hy1 hx1 hy2 hx2).1 (h5 y hy fun h => hym ((hz y hy1).1 h))
          rw [e1, e2]
          exact ihj x hx1 (by omega) hx2
        · obtain ⟨d1, p, d2, d3, d4⟩ := h
          have d5 : ∀ x, InE into u x → m x = -1 := fun x hx => (hz x (inE_lt hG hK hu hx).1).1 (d4 x hx)
          have eu := q1 u hu d1 p d2 d3 d4
          have emu := r1 u hu d1 p d2 d3 d5
          constructor
          · intro e
            have := q2 v u hv hu o' p b2 b3 b4 b1 d2 d3 d4 d1 (by rw [← ev, ← eu]; exact e)
            rw [em, emu, this]
          · intro e
            have := r2 v u hv hu o' p b2 b3 c4 b1 d2 d3 d5 d1 (by rw [← em, ← emu]; exact e)
            rw [ev, eu, this]
        · exact ⟨fun e => absurd e (no4 hL b4 y1 h), fun e => absurd e (no4 hM c4 y2 (u4 h))⟩
    · exact ⟨fun e => absurd e (hno hL h), fun e => absurd e (hno hM (u4 h))⟩
end
end Go.Proofs.Ytjggjhgbobmkhaa

/- A smaller system tells the same: plain. -/
namespace Go.Proofs.Ytjggjhgbobmkhaa
set_option linter.unusedVariables false
set_option linter.unusedSimpArgs false
open Classical in
noncomputable def mkM (n c : Nat) (P : Nat → Nat → Prop) : Mat := (List.range n).map fun v => (List.range c).map fun o => decide (P v o)
theorem mg_mk {n c : Nat} {P : Nat → Nat → Prop} {v o : Nat} : mg (mkM n c P) v o = true ↔ v < n ∧ o < c ∧ P v o := by
  unfold mg mkM
  by_cases hv : v < n
  · rw [getElem!_pos _ v (by simpa using hv)]
    simp only [List.getElem_map, List.getElem_range]
    by_cases ho : o < c
    · rw [getElem!_pos _ o (by simpa using ho)]
      simp [hv, ho]
    · rw [getElem!_neg _ o (by simpa using ho)]
      simp [ho]
  · rw [getElem!_neg _ v (by simpa using hv)]
    constructor
    · intro h
      rw [getElem!_neg _ o (by simp [show (default : List Bool) = [] from rfl])] at h
      cases h
    · exact fun h => absurd h.1 hv
section
variable {n : Nat} {xs : List Cell} {ys : List Con} {M : Mat}
theorem closed_con {v : Int} {N : Mat} : ClosedM ⟨v, xs, ys⟩ N ↔ ∀ c ∈ ys, ruleP xs c N := by
  constructor
  · intro h c hc
    obtain ⟨i, hi, e⟩ := List.getElem_of_mem hc
    have := h i hi
    have e2 : (⟨v, xs, ys⟩ : Sys).cons[i]! = c := by show ys[i]! = c; rw [getElem!_pos ys i hi]; exact e
    rwa [e2] at this
  · intro h i hi
    have hi : i < ys.length := hi
    exact h _ (by show ys[i]! ∈ ys; rw [getElem!_pos ys i hi]; exact List.getElem_mem hi)
theorem mg_lt (h : IsLeast ⟨(n : Int), xs, ys⟩ M) {v o : Nat} (hm : mg M v o = true) : v < n ∧ o < xs.length := by
  have hs : Shape n xs.length M := by simpa using h.sh
  apply Classical.byContradiction
  intro hn
  rw [mg_out hs hn] at hm
  cases hm
/-- What a load through b may bring. -/
def Ld (xs : List Cell) (M : Mat) (b o : Nat) : Prop := ∃ p, p < xs.length ∧ mg M b p = true ∧ (xs[p]!).fn = false ∧ mg M (xs[p]!).v.toNat o = true
def ValS (n : Nat) (xs : List Cell) (ys : List Con) (M : Mat) (v o : Nat) : Prop :=
  (Src n xs.length ⟨n, xs, ys⟩ v o ∧ o < xs.length) ∨ (∃ u, u < n ∧ Src n xs.length ⟨n, xs, ys⟩ v (xs.length + u) ∧ mg M u o = true) ∨ ∃ b, b < n ∧ Src n xs.length ⟨n, xs, ys⟩ v (xs.length + n + b) ∧ Ld xs M b o
theorem loose_cell {v : Nat} {x : Cell} (hx : x ∈ xs) (h : x.v = (v : Int) ∨ (v : Int) ∈ x.args) : looseAt ⟨(n : Int), xs, ys⟩ v = true := by
  unfold looseAt
  rw [Bool.or_eq_true]
  left
  rw [List.any_eq_true]
  refine ⟨x, hx, ?_⟩
  unfold cellLoose
  rw [Bool.or_eq_true]
  rcases h with h | h
  · exact .inl (decide_eq_true h)
  · right
    rw [List.any_eq_true]
    exact ⟨_, h, decide_eq_true rfl⟩
theorem loose_con {v : Nat} {c : Con} (hc : c ∈ ys) (hk : c.k = 5) (ha : c.a = (v : Int)) : looseAt ⟨(n : Int), xs, ys⟩ v = true := by
  unfold looseAt
  rw [Bool.or_eq_true]
  right
  rw [List.any_eq_true]
  exact ⟨c, hc, by simp [conLoose, hk, ha]⟩
theorem xs_mem {p : Nat} (hp : p < xs.length) : xs[p]! ∈ xs := by rw [getElem!_pos xs p hp]; exact List.getElem_mem hp
theorem arg_mem {l : List Int} {k : Nat} (hk : k < l.length) : l[k]! ∈ l := by rw [getElem!_pos l k hk]; exact List.getElem_mem hk
theorem cp_lt (hr : rightB ⟨n, xs, ys⟩ = true) {a b : Nat} (r : Rch (CpE ⟨(n : Int), xs, ys⟩) a b) : a < n → b < n := by
  induction r with
  | refl a => exact id
  | step e _ ih =>
    intro _
    obtain ⟨c, hcm, k2, h3, h4⟩ := e
    have := ((right_conP hr) c hcm).2.2.1.2.2 (by omega)
    exact ih (by omega)
theorem val_le (hr : rightB ⟨n, xs, ys⟩ = true) (h : IsLeast ⟨(n : Int), xs, ys⟩ M) {v o : Nat} (hv : v < n) (hw : ValS n xs ys M v o) : mg M v o = true := by
  have hc := closed_con.1 h.closed
  have hP := right_conP hr
  have up : ∀ a b, Rch (CpE ⟨(n : Int), xs, ys⟩) a b → ∀ o, mg M b o = true → mg M a o = true := fun a b r => by
    induction r with
    | refl a => exact fun o h => h
    | step e _ ih =>
      obtain ⟨c, hcm, k2, h3, h4⟩ := e
      intro o ho
      have := (hc c hcm).2.1 k2 (by omega) (by omega) o (by rw [h4, Int.toNat_natCast]; exact ih o ho)
      rwa [h3, Int.toNat_natCast] at this
  have seed : ∀ u j, u < n → Seed n xs.length ⟨(n : Int), xs, ys⟩ u j → (∀ o, o < xs.length → j = o → mg M u o = true) ∧ (∀ q, q < n → j = xs.length + q → ∀ o, mg M q o = true → mg M u o = true) ∧ ∀ b, b < n → j = xs.length + n + b → ∀ o, Ld xs M b o → mg M u o = true := fun u j hul hs => by
    rcases hs with ⟨c, hcm, h3, ⟨k1, h4⟩ | ⟨k3, h4⟩⟩ | ⟨h3, _⟩
    · have hb := (hP c hcm).2.2.1.2.1 k1
      refine ⟨fun o ho e => ?_, fun q hq e => by omega, fun b hb e => by omega⟩
      have := (hc c hcm).1 k1
      rw [h3, h4, Int.toNat_natCast, Int.toNat_natCast, e] at this
      exact this
    · have hb := (hP c hcm).2.2.1.2.2 (by omega)
      have hb0 := (hP c hcm).2.2.1.1
      refine ⟨fun o ho e => by omega, fun q hq e => by omega, fun b hbn e o hl => ?_⟩
      obtain ⟨p, hp, h5, h6, h7⟩ := hl
      have hsrc : srcOf c = b := by unfold srcOf; rw [if_neg (by omega)]; omega
      have := ((hc c hcm).2.2 (by omega) (by omega) p hp (by rw [hsrc]; exact h5)).1 k3 h6 (by omega) (right_cellP hr _ (xs_mem hp)).1.1 o h7
      rwa [h3, Int.toNat_natCast] at this
    · refine ⟨fun o ho e => by omega, fun q hq e o hm => ?_, fun b hbn e => ?_⟩
      · rw [show u = q by omega]; exact hm
      · omega
  rcases hw with ⟨⟨u, h1, h2⟩, h3⟩ | ⟨q, hq, ⟨u, h1, h2⟩, h3⟩ | ⟨b, hb, ⟨u, h1, h2⟩, h3⟩
  · exact up v u h1 o ((seed u o (cp_lt hr h1 hv) h2).1 o h3 rfl)
  · exact up v u h1 o ((seed u _ (cp_lt hr h1 hv) h2).2.1 q hq rfl o h3)
  · exact up v u h1 o ((seed u _ (cp_lt hr h1 hv) h2).2.2 b hb rfl o h3)
/-- The least map, told by sources. -/
theorem val_ge (hr : rightB ⟨n, xs, ys⟩ = true) (h : IsLeast ⟨(n : Int), xs, ys⟩ M) {v o : Nat} (hm : mg M v o = true) : ValS n xs ys M v o := by
  have hc := closed_con.1 h.closed
  have hP := right_conP hr
  have hX := right_cellP hr
  have down : ∀ v o, mg (mkM n xs.length (ValS n xs ys M)) v o = true → mg M v o = true := fun v o hw => by
    obtain ⟨h1, h2, h3⟩ := mg_mk.1 hw
    exact val_le hr h h1 h3
  have mk : ∀ (t : Int) (o : Nat), 0 ≤ t → t < (n : Int) → mg M t.toNat o = true → (∀ u : Nat, t = (u : Int) → looseAt ⟨(n : Int), xs, ys⟩ u = true) → mg (mkM n xs.length (ValS n xs ys M)) t.toNat o = true := fun t o h0 h1 h2 h3 =>
    mg_mk.2 ⟨by omega, (mg_lt h h2).2, .inr (.inl ⟨t.toNat, by omega, .seed (.inr ⟨rfl, h3 _ (by omega)⟩), h2⟩)⟩
  have hcl : ClosedM ⟨(n : Int), xs, ys⟩ (mkM n xs.length (ValS n xs ys M)) := closed_con.2 fun c hcm => by
    obtain ⟨hk, ha, hb, hl, hargs, h5⟩ := hP c hcm
    refine ⟨fun k1 => ?_, fun k2 => ?_, fun k1 k2 p hp hs => ?_⟩
    · have h5 := (h5 (by omega)).1
      have hb2 := hb.2.1 k1
      refine mg_mk.2 ⟨by omega, by omega, .inl ⟨.seed (.inl ⟨c, hcm, by omega, .inl ⟨k1, by omega⟩⟩), by omega⟩⟩
    · intro h1 h2 o ho
      have hb2 := hb.2.2 (by omega)
      obtain ⟨q1, q2, q3⟩ := mg_mk.1 ho
      have hcp : CpE ⟨(n : Int), xs, ys⟩ c.a.toNat c.b.toNat := ⟨c, hcm, k2, by omega, by omega⟩
      refine mg_mk.2 ⟨by omega, q2, ?_⟩
      rcases q3 with ⟨q3, q4⟩ | ⟨u, q3, q4, q5⟩ | ⟨u, q3, q4, q5⟩
      · exact .inl ⟨.copy hcp q3, q4⟩
      · exact .inr (.inl ⟨u, q3, .copy hcp q4, q5⟩)
      · exact .inr (.inr ⟨u, q3, .copy hcp q4, q5⟩)
    · have hb2 := hb.2.2 k1
      have hxv := (hX _ (xs_mem hp)).1
      have hsM := down _ _ hs
      have hrule := (hc c hcm).2.2 k1 k2 p hp hsM
      refine ⟨fun k3 hfn h1 h2 o ho => ?_, fun k4 hfn h1 h2 o ho => ?_, fun k5 hfn => ⟨fun h1 h2 o ho => ?_, fun k hk1 hk2 h1 h2 o ho => ?_⟩⟩
      · have hsrc : srcOf c = c.b.toNat := by unfold srcOf; rw [if_neg (by omega)]
        rw [hsrc] at hsM
        have hoM := down _ _ ho
        refine mg_mk.2 ⟨by omega, (mg_lt h hoM).2, .inr (.inr ⟨c.b.toNat, by omega, .seed (.inl ⟨c, hcm, by omega, .inr ⟨k3, by omega⟩⟩), p, hp, hsM, hfn, hoM⟩)⟩
      · exact mk _ _ h1 hxv.2 (hrule.2.1 k4 hfn h1 h2 o (down _ _ ho)) fun u e => loose_cell (xs_mem hp) (.inl e)
      · exact mk _ _ h1 ha.2 ((hrule.2.2 k5 hfn).1 h1 h2 o (down _ _ ho)) fun u e => loose_con hcm k5 e
      · have har := (hX _ (xs_mem hp)).2.2 _ (arg_mem hk1)
        exact mk _ _ h1 har.2 ((hrule.2.2 k5 hfn).2 k hk1 hk2 h1 h2 o (down _ _ ho)) fun u e => loose_cell (xs_mem hp) (.inr (e ▸ arg_mem hk1))
  exact (mg_mk.1 (h.least _ hcl v o hm)).2.2
theorem row_same (hr : rightB ⟨n, xs, ys⟩ = true) (h : IsLeast ⟨(n : Int), xs, ys⟩ M) {v u : Nat} (hv : v < n) (hu : u < n) (e : SrcE n xs.length ⟨n, xs, ys⟩ v u) (o : Nat) : mg M v o = true ↔ mg M u o = true := by
  have half : ∀ a b, b < n → SrcE n xs.length ⟨n, xs, ys⟩ a b → mg M a o = true → mg M b o = true := fun a b hb e hm => by
    refine val_le hr h hb ?_
    rcases val_ge hr h hm with ⟨q3, q4⟩ | ⟨u, q3, q4, q5⟩ | ⟨u, q3, q4, q5⟩
    · exact .inl ⟨(e _).1 q3, q4⟩
    · exact .inr (.inl ⟨u, q3, (e _).1 q4, q5⟩)
    · exact .inr (.inr ⟨u, q3, (e _).1 q4, q5⟩)
  exact ⟨half v u hu e, half u v hv fun j => (e j).symm⟩
theorem row_none (hr : rightB ⟨n, xs, ys⟩ = true) (h : IsLeast ⟨(n : Int), xs, ys⟩ M) {v : Nat} (e : SrcZ n xs.length ⟨n, xs, ys⟩ v) (o : Nat) : ¬ mg M v o = true := fun hm => by
  rcases val_ge hr h hm with ⟨q3, _⟩ | ⟨u, _, q4, _⟩ | ⟨u, _, q4, _⟩
  · exact e _ q3
  · exact e _ q4
  · exact e _ q4
end
end Go.Proofs.Ytjggjhgbobmkhaa

/- The least map of a smaller system: plain. -/
namespace Go.Proofs.Ytjggjhgbobmkhaa
set_option linter.unusedVariables false
set_option linter.unusedSimpArgs false
theorem nxt_mono (l : Nat → Int) : ∀ {a b : Nat}, a ≤ b → nxt l a ≤ nxt l b := by
  intro a b h
  induction b with
  | zero => rw [show a = 0 by omega]; exact Nat.le_refl _
  | succ b ih =>
    by_cases e : a = b + 1
    · rw [e]; exact Nat.le_refl _
    · have h1 := ih (by omega)
      have h2 : nxt l b ≤ nxt l (b + 1) := by
        show nxt l b ≤ (if l b = (nxt l b : Int) then nxt l b + 1 else nxt l b)
        split <;> omega
      omega
theorem canon_lt {n : Nat} {wh : Nat → Int} {E : Nat → Nat → Prop} {Z : Nat → Prop} (h : Canon n wh E Z) {v : Nat} (hv : v < n) : wh v < (nxt wh n : Int) := by
  have h1 := (h.le v hv).2
  have h2 : nxt wh (v + 1) ≤ nxt wh n := nxt_mono wh hv
  have h3 : nxt wh (v + 1) = if wh v = (nxt wh v : Int) then nxt wh v + 1 else nxt wh v := rfl
  split at h3 <;> omega
/-- How a smaller system's variables stand for the greater one's. -/
structure WOk (n : Nat) (xs : List Cell) (ys : List Con) (M : Mat) (wh : Nat → Int) (cnt : Nat) (less : Bool) : Prop where
  rng : ∀ v, v < n → -1 ≤ wh v ∧ wh v < (cnt : Int)
  cnt : cnt ≤ n
  row : ∀ v u, v < n → u < n → 0 ≤ wh v → wh v = wh u → ∀ o, mg M v o = true ↔ mg M u o = true
  none : ∀ v, v < n → wh v < 0 → ∀ o, ¬ mg M v o = true
  loo : ∀ v, v < n → looseAt ⟨(n : Int), xs, ys⟩ v = true → 0 ≤ wh v
  all : less = false → ∀ v, v < n → 0 ≤ wh v
section
variable {n cnt : Nat} {xs : List Cell} {ys : List Con} {M M' : Mat} {wh : Nat → Int} {less : Bool}
theorem shN_mem {y : Con} (h : y ∈ shN wh less ys) : (∃ c ∈ ys, y = shX wh c) ∧ (less = true → emptyC y = false) := by
  have key : ∀ (l : List Con) (out : List Con), y ∈ l.foldl (shStep wh less) out → y ∈ out ∨ ((∃ c ∈ l, y = shX wh c) ∧ (less = true → emptyC y = false)) := by
    intro l
    induction l with
    | nil => intro out h; exact .inl h
    | cons c l ih =>
      intro out h
      rcases ih _ h with h1 | ⟨⟨d, h1, h2⟩, h3⟩
      · unfold shStep at h1
        split at h1
        · exact .inl h1
        · rename_i hc
          rcases List.mem_append.1 h1 with h1 | h1
          · exact .inl h1
          · simp at h1
            refine .inr ⟨⟨c, by simp, h1⟩, fun hl => Bool.eq_false_iff.2 fun he => hc ?_⟩
            rw [hl, ← h1, he]
            rfl
      · exact .inr ⟨⟨d, by simp [h1], h2⟩, h3⟩
  rcases key ys [] h with h | h
  · cases h
  · exact h
theorem at_nn (h : WOk n xs ys M wh cnt less) {x : Int} (h0 : 0 ≤ x) : atF wh x = wh x.toNat := if_neg (by omega)
theorem sh_right (hr : rightB ⟨n, xs, ys⟩ = true) (h : WOk n xs ys M wh cnt less) : rightB ⟨(cnt : Int), xs.map (shC wh), shN wh less ys⟩ = true := by
  obtain ⟨hn, hnx, hny⟩ := right_few hr
  have hP := right_conP hr
  have hX := right_cellP hr
  have hlen := shN_len wh less ys
  have hcn := h.cnt
  have atr : ∀ x : Int, -1 ≤ x → x < (n : Int) → -1 ≤ atF wh x ∧ (atF wh x < (cnt : Int) ∨ atF wh x = -1) := fun x h1 h2 => by
    by_cases h0 : x < 0
    · have e : atF wh x = -1 := if_pos h0
      omega
    · have := h.rng x.toNat (by omega)
      rw [at_nn h (by omega)]
      omega
  have hr0 := hr
  simp only [rightB, bigOk, Bool.and_eq_true, decide_eq_true_eq, List.all_eq_true] at hr0
  unfold rightB bigOk
  simp only [Bool.and_eq_true, decide_eq_true_eq, List.all_eq_true]
  refine ⟨⟨⟨⟨⟨by omega, by omega⟩, by rw [List.length_map]; omega⟩, by omega⟩, fun c hc => ?_⟩, fun y hy => ?_⟩
  · obtain ⟨x, hx, rfl⟩ := List.mem_map.1 hc
    obtain ⟨h1, h2, h3⟩ := hX x hx
    have h4 := hr0.1.2 x hx
    simp only [cellOk, inR, Bool.and_eq_true, Bool.or_eq_true, decide_eq_true_eq, List.all_eq_true] at h4
    unfold cellOk inR shC
    simp only [Bool.and_eq_true, Bool.or_eq_true, decide_eq_true_eq, List.all_eq_true, List.length_map]
    have hw := h.loo x.v.toNat (by omega) (loose_cell hx (.inl (by omega)))
    have hw2 := h.rng x.v.toNat (by omega)
    rw [at_nn h h1.1]
    refine ⟨⟨⟨⟨hw, hw2.2⟩, h2⟩, h4.1.2⟩, fun z hz => ?_⟩
    obtain ⟨q, hq, rfl⟩ := List.mem_map.1 hz
    have hq2 := h3 q hq
    have hw := h.loo q.toNat (by omega) (loose_cell hx (.inr (by rw [show ((q.toNat : Nat) : Int) = q by omega]; exact hq)))
    have hw2 := h.rng q.toNat (by omega)
    rw [at_nn h hq2.1]
    exact ⟨hw, hw2.2⟩
  · obtain ⟨⟨c, hcm, rfl⟩, he⟩ := shN_mem hy
    obtain ⟨hk, ha, hb, hl, hargs, h5⟩ := hP c hcm
    have h4 := hr0.2 c hcm
    simp only [conOk, inR, Bool.and_eq_true, Bool.or_eq_true, decide_eq_true_eq, List.all_eq_true] at h4
    have hA := atr c.a ha.1 ha.2
    have hab : (¬ c.k = 5 → 0 ≤ atF wh c.a) ∧ (¬ c.k = 1 → 0 ≤ atF wh c.b) := by
      cases hls : less with
      | false =>
        refine ⟨fun h5' => ?_, fun h1' => ?_⟩
        · rw [at_nn h (h5 h5').1]; exact h.all hls _ (by omega)
        · have := hb.2.2 h1'
          rw [at_nn h hb.1]; exact h.all hls _ (by omega)
      | true =>
        have he := he hls
        unfold emptyC shX at he
        simp only at he
        by_cases k1 : c.k = 1
        · rw [if_pos k1] at he
          rw [decide_eq_false_iff_not] at he
          exact ⟨fun _ => by omega, fun h => absurd k1 h⟩
        · rw [if_neg k1] at he
          by_cases k5 : c.k = 5
          · rw [if_pos k5, if_neg k1, decide_eq_false_iff_not] at he
            exact ⟨fun h => absurd k5 h, fun _ => by omega⟩
          · rw [if_neg k5, if_neg k1] at he
            simp only [Bool.or_eq_false_iff, decide_eq_false_iff_not] at he
            exact ⟨fun _ => by omega, fun _ => by omega⟩
    unfold conOk inR shX
    simp only [Bool.and_eq_true, Bool.or_eq_true, decide_eq_true_eq, List.all_eq_true, List.length_map]
    refine ⟨⟨⟨⟨⟨⟨hk.1, hk.2⟩, ?_⟩, ?_⟩, hl⟩, h4.1.2⟩, fun z hz => ?_⟩
    · by_cases k5 : c.k = 5
      · rw [if_pos k5]; omega
      · rw [if_neg k5]; have := hab.1 k5; omega
    · by_cases k1 : c.k = 1
      · rw [if_pos k1, if_pos k1]; have := hb.2.1 k1; omega
      · rw [if_neg k1, if_neg k1]
        have h1 := hb.2.2 k1
        have h2 := atr c.b (by omega) h1
        have h3 := hab.2 k1
        omega
    · obtain ⟨q, hq, rfl⟩ := List.mem_map.1 hz
      have := hargs q hq
      have := atr q this.1 this.2
      omega
/-- What labels bring. -/
theorem wok_of {lab : Nat → Int} {mode : Int} (hr : rightB ⟨n, xs, ys⟩ = true) (h : IsLeast ⟨(n : Int), xs, ys⟩ M) (hcan : Canon n wh (fun v u => klF lab v = klF lab u) (fun v => lab v < 0)) (hL : LabM n xs ys mode lab) : WOk n xs ys M wh (nxt wh n) (decide (¬ mode = 0)) := by
  have hG : GOk n (gInto n xs ys) (gBases n xs ys) (gLoose n xs ys) := gok hr
  have hni := hG.ni
  -- below none just if there are no sources
  have hz : ∀ v, v < n → (lab v < 0 → SrcZ n xs.length ⟨n, xs, ys⟩ v) := fun v hv hneg => by
    by_cases m1 : mode = 1
    · obtain ⟨kn, of, hK, hlab⟩ := hL.ovs m1
      have hge := ((labN_ok hG hK kn.length (Nat.le_refl _)).lab _ (hK.at_ v (by omega)).1).1
      have hge : -1 ≤ gl n xs ys kn of v := hge
      have e := hlab v hv
      have := (lv_none hG hK xs.length (v := v) (by omega)).1 (show gl n xs ys kn of v = -1 by omega)
      exact fun j hj => this j ((gs_src hr hv).2 hj)
    · by_cases m2 : mode = 2
      · have hc2 := hL.hu m2
        exact (hc2.none v hv).1 (by have := (hc2.le v hv).1; omega)
      · have := hL.plain m1 m2 v hv
        omega
  have hs : ∀ v u, v < n → u < n → ¬ lab v < 0 → ¬ lab u < 0 → lab v = lab u → SrcE n xs.length ⟨n, xs, ys⟩ v u := fun v u hv hu h1 h2 e => by
    by_cases m1 : mode = 1
    · obtain ⟨kn, of, hK, hlab⟩ := hL.ovs m1
      have := lv_same hG hK xs.length (v := v) (u := u) (by omega) (by omega) (by rw [show lv n (gInto n xs ys) (gBases n xs ys) (gLoose n xs ys) kn of v = lab v from (hlab v hv).symm, show lv n (gInto n xs ys) (gBases n xs ys) (gLoose n xs ys) kn of u = lab u from (hlab u hu).symm, e])
      exact fun j => by rw [← gs_src hr hv, ← gs_src hr hu]; exact this j
    · by_cases m2 : mode = 2
      · exact ((hL.hu m2).same v u hv hu).1 e
      · have e1 := hL.plain m1 m2 v hv
        have e2 := hL.plain m1 m2 u hu
        have : v = u := by omega
        subst this
        exact fun j => Iff.rfl
  have hle : ∀ v, nxt wh v ≤ v := nxt_leV wh
  refine ⟨fun v hv => ⟨(hcan.le v hv).1, canon_lt hcan hv⟩, hle n, fun v u hv hu h0 e o => ?_, fun v hv hneg o => ?_, fun v hv hloo => ?_, fun hless v hv => ?_⟩
  · have hk := (hcan.same v u hv hu).1 e
    have nv : ¬ lab v < 0 := fun hl => by have := (hcan.none v hv).2 hl; omega
    have nu : ¬ lab u < 0 := fun hl => by have := (hcan.none u hu).2 hl; omega
    have hk : klF lab v = klF lab u := hk
    unfold klF at hk
    rw [if_neg nv, if_neg nu] at hk
    exact row_same hr h hv hu (hs v u hv hu nv nu hk) o
  · have hl := (hcan.none v hv).1 (by have := (hcan.le v hv).1; omega)
    exact row_none hr h (hz v hv hl) o
  · apply Int.not_lt.1
    intro hneg
    have hl := (hcan.none v hv).1 (by have := (hcan.le v hv).1; omega)
    exact hz v hv hl _ (.seed (.inr ⟨rfl, hloo⟩))
  · have m0 : mode = 0 := by simpa using hless
    have e := hL.plain (by omega) (by omega) v hv
    apply Int.not_lt.1
    intro hneg
    have hl := (hcan.none v hv).1 (by have := (hcan.le v hv).1; omega)
    omega
end
end Go.Proofs.Ytjggjhgbobmkhaa

/- The walk of GraphOf. -/
namespace Go.Proofs.Ytjggjhgbobmkhaa
open Go.RowKit
set_option linter.unusedVariables false
set_option linter.unusedSimpArgs false
set_option maxRecDepth 100000
end Go.Proofs.Ytjggjhgbobmkhaa

/- The walk of GraphStores. -/
namespace Go.Proofs.Ytjggjhgbobmkhaa
open Go.RowKit
set_option linter.unusedVariables false
set_option linter.unusedSimpArgs false
set_option maxRecDepth 100000
end Go.Proofs.Ytjggjhgbobmkhaa

/- The last steps of a law's row, once for all laws: arguments opened, what is read again. -/
namespace Go.Proofs.Ytjggjhgbobmkhaa
open Go.ChangeShapes Go.WideShapes Go.ChangeAt Go.RowKit
set_option linter.unusedVariables false
set_option linter.unusedSimpArgs false
set_option maxRecDepth 100000
section
variable {H : Type} {enc : TypeId × Value → H} {W : World} {base : Nat}
theorem open_D {α : Type} {D : Dec α} {t : TypeId} {v : Value} {d : DataW H} {p : List MemPlace} (h : DataW.Trod enc Try.prog W 0 (fun _ => true) true t v d p) (ho : Opens enc Try.prog W 0 (fun _ => true) true t D) : ∃ a, D W v.cells.toList a := trod_of_Trod h ho
theorem open_Draft {v : Value} {d : DataW H} {p : List MemPlace} (hv : Value.okWide Try.prog W .any base 24 v) (h : DataW.Trod enc Try.prog W 0 (fun _ => true) true 24 v d p) :
    ∃ (s : Draft) (A : Option Addr) (c : Nat), v = .agg #[.int .u8 s.vars, .int .u8 s.cells, .slice A s.acts.length c] ∧ RActs W A s.acts ∧ (0 ≤ s.vars ∧ s.vars ≤ 255) ∧ 0 ≤ s.cells ∧ s.cells ≤ 255 := by
  obtain ⟨cs, rfl, _⟩ := okWide_struct Try.underlying24 hv
  obtain ⟨s, A, c, hc, h1, h2⟩ := open_D h opens_Draft
  refine ⟨s, A, c, ?_, h1, h2⟩
  simp only [Value.cells] at hc
  rw [← hc]
end
end Go.Proofs.Ytjggjhgbobmkhaa
