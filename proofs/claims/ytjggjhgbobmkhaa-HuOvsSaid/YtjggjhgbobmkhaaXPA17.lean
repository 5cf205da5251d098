/- Labels and sources: plain. -/
import Derived.Test.YtjggjhgbobmkhaaXOL17
import Derived.Test.YtjggjhgbobmkhaaY14
namespace Go.Proofs.Ytjggjhgbobmkhaa
set_option linter.unusedVariables false
set_option linter.unusedSimpArgs false
section
variable {vars nc : Nat} {into bases : List (List Int)} {lo : List Bool} {kn : List (List Nat)} {of : Nat → Nat}
/-- What labels tell of sources. -/
structure DOk (vars nc : Nat) (into bases : List (List Int)) (lo : List Bool) (kn : List (List Nat)) (k : Nat) (s : LabS) (D : Nat → Nat → Prop) : Prop where
  no : ∀ p, p < k → s.lab p = -1 → ∀ v ∈ kn[p]!, ∀ j, ¬ GS vars nc into bases lo v j
  pos : ∀ p, p < k → s.lab p ≠ -1 → ∀ v ∈ kn[p]!, ∃ j, GS vars nc into bases lo v j
  so : ∀ p m, p < k → s.lab p = ((m : Nat) : Int) → ∀ v ∈ kn[p]!, ∀ j, GS vars nc into bases lo v j ↔ D m j
  ob : ∀ o m, s.ob o = some m → ∀ j : Nat, D m j ↔ (j : Int) = o
theorem dok_next (hG : GOk vars into bases lo) (hK : KnOk into kn of) {k : Nat} (hk : k < kn.length) {D : Nat → Nat → Prop} (h : DOk vars nc into bases lo kn k (labN vars into bases lo kn of k) D) : ∃ D', DOk vars nc into bases lo kn (k + 1) (labN vars into bases lo kn of (k + 1)) D' := by
  have hLO := labN_ok hG hK k (Nat.le_of_lt hk)
  have hcase : labN vars into bases lo kn of (k + 1) = ⟨setF (labN vars into bases lo kn of k).lab k (labR vars into bases lo kn of (labN vars into bases lo kn of k) k).1, (labR vars into bases lo kn of (labN vars into bases lo kn of k) k).2.1, (labR vars into bases lo kn of (labN vars into bases lo kn of k) k).2.2⟩ := rfl
  rw [hcase]
  obtain ⟨s, hs⟩ : ∃ s, s = labN vars into bases lo kn of k := ⟨_, rfl⟩
  unfold labR
  have hS0 : ∀ y, y ∈ seenK into kn of s.lab k ↔ _ := fun y => mem_seenK
  have hSP := seenK_ok hG hK hk hLO
  have hW0 : ∀ y, y ∈ ownK vars bases kn k ↔ _ := fun y => mem_ownK
  have hL0 : looK lo kn k = true ↔ _ := looK_iff
  rw [← hs] at hLO h hSP ⊢
  have hgs : ∀ v ∈ kn[k]!, ∀ j, GS vars nc into bases lo v j ↔ (∃ w ∈ kn[k]!, lo[w]! = true ∧ j = nc + w) ∨ ((j : Int) ∈ ownK vars bases kn k) ∨ ∃ m : Nat, (m : Int) ∈ seenK into kn of s.lab k ∧ D m j := fun v hv j => by
    rw [GS_knot hG.ri hK hk hv, hW0]
    refine or_congr Iff.rfl (or_congr Iff.rfl ?_)
    constructor
    · rintro ⟨w, hw, x, hx, h1, h2⟩
      obtain ⟨hwl, hd⟩ := hK.down hG.ri hk hw
      have hle := Nat.lt_of_le_of_ne (hd x hx) h1
      have hxl : x.toNat < into.length := by have := hG.ri w hwl x hx; omega
      have hxm := (hK.at_ x.toNat hxl).2
      have hlb := hLO.lab _ hle
      by_cases hn : s.lab (of x.toNat) = -1
      · exact absurd h2 (h.no _ hle hn _ hxm j)
      · obtain ⟨m, hm⟩ := Int.eq_ofNat_of_zero_le (show 0 ≤ s.lab (of x.toNat) by omega)
        refine ⟨m, (hS0 _).2 ⟨w, hw, x, hx, h1, hn, hm.symm⟩, ?_⟩
        exact (h.so _ m hle hm _ hxm j).1 h2
    · rintro ⟨m, hm, hD⟩
      obtain ⟨w, hw, x, hx, h1, h2, h3⟩ := (hS0 _).1 hm
      obtain ⟨hwl, hd⟩ := hK.down hG.ri hk hw
      have hle := Nat.lt_of_le_of_ne (hd x hx) h1
      have hxl : x.toNat < into.length := by have := hG.ri w hwl x hx; omega
      exact ⟨w, hw, x, hx, h1, (h.so _ m hle h3.symm _ (hK.at_ x.toNat hxl).2 j).2 hD⟩
  have hne : ∀ y ∈ seenK into kn of s.lab k, ∃ m : Nat, y = (m : Int) ∧ m < s.nx ∧ ∃ j, D m j := fun y hy => by
    have hb := hSP.2 y hy
    obtain ⟨m, rfl⟩ := Int.eq_ofNat_of_zero_le hb.1
    refine ⟨m, rfl, by omega, ?_⟩
    obtain ⟨w, hw, x, hx, h1, h2, h3⟩ := (hS0 _).1 hy
    obtain ⟨hwl, hd⟩ := hK.down hG.ri hk hw
    have hle := Nat.lt_of_le_of_ne (hd x hx) h1
    have hxl : x.toNat < into.length := by have := hG.ri w hwl x hx; omega
    obtain ⟨j, hj⟩ := h.pos _ hle h2 _ (hK.at_ x.toNat hxl).2
    exact ⟨j, (h.so _ m hle h3.symm _ (hK.at_ x.toNat hxl).2 j).1 hj⟩
  have hWP : ∀ y ∈ ownK vars bases kn k, 0 ≤ y := fun y hy => by
    obtain ⟨w, hw, h1, h2⟩ := (hW0 y).1 hy
    exact (hG.rb w (by rw [hG.nb]; exact h1) y h2).1
  -- a number of its own
  have own : ∀ (X : Nat → Prop) (f' : Int → Option Nat), (∀ v ∈ kn[k]!, ∀ j, GS vars nc into bases lo v j ↔ X j) → (∃ j, X j) → (∀ o m, f' o = some m → s.ob o = some m ∨ (m = s.nx ∧ ∀ j : Nat, X j ↔ (j : Int) = o)) → ∃ D', DOk vars nc into bases lo kn (k + 1) ⟨setF s.lab k (s.nx : Int), s.nx + 1, f'⟩ D' := fun X f' hX hXn hf => by
    refine ⟨fun m => if m = s.nx then X else D m, fun p hp hl v hv j => ?_, fun p hp hl v hv => ?_, fun p m hp hl v hv j => ?_, fun o m hom j => ?_⟩
    · by_cases e : p = k
      · subst e
        have hl : setF s.lab p (s.nx : Int) p = -1 := hl
        rw [setF_at] at hl
        omega
      · have hl : setF s.lab k (s.nx : Int) p = -1 := hl
        rw [setF_ne _ _ e] at hl
        exact h.no p (by omega) hl v hv j
    · by_cases e : p = k
      · subst e
        obtain ⟨j, hj⟩ := hXn
        exact ⟨j, (hX v hv j).2 hj⟩
      · have hl : setF s.lab k (s.nx : Int) p ≠ -1 := hl
        rw [setF_ne _ _ e] at hl
        exact h.pos p (by omega) hl v hv
    · by_cases e : p = k
      · subst e
        have hl : setF s.lab p (s.nx : Int) p = (m : Int) := hl
        rw [setF_at] at hl
        have hm : m = s.nx := by omega
        rw [if_pos hm]
        exact hX v hv j
      · have hl : setF s.lab k (s.nx : Int) p = (m : Int) := hl
        rw [setF_ne _ _ e] at hl
        have hb := hLO.lab p (by omega)
        rw [if_neg (by omega)]
        exact h.so p m (by omega) hl v hv j
    · rcases hf o m hom with h1 | ⟨h1, h2⟩
      · have hb := hLO.ob o m h1
        rw [if_neg (by omega)]
        exact h.ob o m h1 j
      · rw [if_pos h1]
        exact h2 j
  -- one that is there
  have old : ∀ (l : Int) (m' : Nat), (l = -1 → ∀ v ∈ kn[k]!, ∀ j, ¬ GS vars nc into bases lo v j) → (∀ m : Nat, l = (m : Int) → (∃ j, D m j) ∧ ∀ v ∈ kn[k]!, ∀ j, GS vars nc into bases lo v j ↔ D m j) → -1 ≤ l → ∃ D', DOk vars nc into bases lo kn (k + 1) ⟨setF s.lab k l, m', s.ob⟩ D' := fun l m' h1 h2 h3 => by
    refine ⟨D, fun p hp hl v hv j => ?_, fun p hp hl v hv => ?_, fun p m hp hl v hv j => ?_, h.ob⟩
    · have hl : setF s.lab k l p = -1 := hl
      by_cases e : p = k
      · subst e
        rw [setF_at] at hl
        exact h1 hl v hv j
      · rw [setF_ne _ _ e] at hl
        exact h.no p (by omega) hl v hv j
    · have hl : setF s.lab k l p ≠ -1 := hl
      by_cases e : p = k
      · subst e
        rw [setF_at] at hl
        obtain ⟨m, rfl⟩ := Int.eq_ofNat_of_zero_le (show 0 ≤ l by omega)
        obtain ⟨⟨j, hj⟩, h5⟩ := h2 m rfl
        exact ⟨j, (h5 v hv j).2 hj⟩
      · rw [setF_ne _ _ e] at hl
        exact h.pos p (by omega) hl v hv
    · have hl : setF s.lab k l p = (m : Int) := hl
      by_cases e : p = k
      · subst e
        rw [setF_at] at hl
        exact (h2 m hl).2 v hv j
      · rw [setF_ne _ _ e] at hl
        exact h.so p m (by omega) hl v hv j
  clear hcase hs hS0
  have hLn : looK lo kn k = false → ∀ w ∈ kn[k]!, ¬ lo[w]! = true := fun hf w hw hl => by
    rw [hL0.2 ⟨w, hw, hl⟩] at hf
    cases hf
  generalize ownK vars bases kn k = W at *
  generalize seenK into kn of s.lab k = S at *
  unfold labelF
  split
  · rename_i hc
    refine own (fun j => (∃ w ∈ kn[k]!, lo[w]! = true ∧ j = nc + w) ∨ ((j : Int) ∈ W) ∨ ∃ m : Nat, (m : Int) ∈ S ∧ D m j) s.ob hgs ?_ (fun o m h1 => .inl h1)
    have seenOne : 1 ≤ S.length → ∃ j, (∃ w ∈ kn[k]!, lo[w]! = true ∧ j = nc + w) ∨ ((j : Int) ∈ W) ∨ ∃ m : Nat, (m : Int) ∈ S ∧ D m j := fun hl => by
      cases S with
      | nil => simp at hl
      | cons y r =>
        obtain ⟨m, rfl, _, j, hj⟩ := hne y (by simp)
        exact ⟨j, .inr (.inr ⟨m, by simp, hj⟩)⟩
    have ownOne : 1 ≤ W.length → ∃ j : Nat, (∃ w ∈ kn[k]!, lo[w]! = true ∧ j = nc + w) ∨ ((j : Int) ∈ W) ∨ ∃ m : Nat, (m : Int) ∈ S ∧ D m j := fun hl => by
      cases W with
      | nil => simp at hl
      | cons y r =>
        obtain ⟨j, rfl⟩ := Int.eq_ofNat_of_zero_le (hWP y (by simp))
        exact ⟨j, .inr (.inl (by simp))⟩
    rcases hc with h1 | h1 | h1 | h1
    · obtain ⟨w, hw, h2⟩ := hL0.1 h1
      exact ⟨_, .inl ⟨w, hw, h2, rfl⟩⟩
    · exact ownOne (by omega)
    · exact seenOne (by omega)
    · exact ownOne (by omega)
  · rename_i hc
    have hl : looK lo kn k = false := by cases hb : looK lo kn k with | false => rfl | true => exact absurd (.inl hb) hc
    have hno := hLn hl
    have hW1 : W.length ≤ 1 := by apply Classical.byContradiction; intro hh; exact hc (.inr (.inl (by omega)))
    have hS1 : S.length ≤ 1 := by apply Classical.byContradiction; intro hh; exact hc (.inr (.inr (.inl (by omega))))
    have hWS : ¬ (W.length = 1 ∧ S.length = 1) := fun hh => hc (.inr (.inr (.inr hh)))
    cases S with
    | cons y r =>
      have hr : r = [] := List.eq_nil_of_length_eq_zero (by rw [List.length_cons] at hS1; omega)
      subst hr
      have hWe : W = [] := List.eq_nil_of_length_eq_zero (by simp at hWS; omega)
      subst hWe
      obtain ⟨m, rfl, hm, hj⟩ := hne y (by simp)
      refine old (m : Int) s.nx (fun h => by omega) (fun m2 h2 => ?_) (by omega)
      have e : m2 = m := by omega
      subst e
      refine ⟨hj, fun v hv j => ?_⟩
      rw [hgs v hv j]
      constructor
      · rintro (⟨w, hw, h1, _⟩ | h1 | ⟨m3, h1, h2⟩)
        · exact absurd h1 (hno w hw)
        · cases h1
        · simp at h1
          rw [← show m3 = m2 by omega]
          exact h2
      · exact fun h => .inr (.inr ⟨m2, by simp, h⟩)
    | nil =>
      cases W with
      | nil =>
        refine old (-1) s.nx (fun _ v hv j hj => ?_) (fun m hm => by omega) (by omega)
        rcases (hgs v hv j).1 hj with ⟨w, hw, h1, _⟩ | h1 | ⟨m3, h1, h2⟩
        · exact absurd h1 (hno w hw)
        · cases h1
        · cases h1
      | cons o r =>
        have hr : r = [] := List.eq_nil_of_length_eq_zero (by rw [List.length_cons] at hW1; omega)
        subst hr
        have hX : ∀ v ∈ kn[k]!, ∀ j : Nat, GS vars nc into bases lo v j ↔ (j : Int) = o := fun v hv j => by
          rw [hgs v hv j]
          constructor
          · rintro (⟨w, hw, h1, _⟩ | h1 | ⟨m3, h1, h2⟩)
            · exact absurd h1 (hno w hw)
            · simpa using h1
            · cases h1
          · exact fun h => .inr (.inl (by simp [h]))
        obtain ⟨jo, hjo⟩ := Int.eq_ofNat_of_zero_le (hWP o (by simp))
        cases hq : s.ob o with
        | some q =>
          simp only [labelO, hq]
          have hD := h.ob o q hq
          refine old (q : Int) s.nx (fun h => by omega) (fun m2 h2 => ?_) (by omega)
          have e : m2 = q := by omega
          subst e
          exact ⟨⟨jo, (hD jo).2 hjo.symm⟩, fun v hv j => (hX v hv j).trans (hD j).symm⟩
        | none =>
          simp only [labelO, hq]
          refine own (fun j => (j : Int) = o) _ hX ⟨jo, hjo.symm⟩ (fun x m hx => ?_)
          unfold putN at hx
          split at hx
          · rename_i e
            injection hx with hx
            exact .inr ⟨hx.symm, fun j => by rw [e]⟩
          · exact .inl hx
theorem dok (hG : GOk vars into bases lo) (hK : KnOk into kn of) (nc : Nat) : ∀ k, k ≤ kn.length → ∃ D, DOk vars nc into bases lo kn k (labN vars into bases lo kn of k) D
  | 0, _ => ⟨fun _ _ => False, fun p hp => absurd hp (Nat.not_lt_zero p), fun p hp => absurd hp (Nat.not_lt_zero p), fun p m hp => absurd hp (Nat.not_lt_zero p), fun o m h => by cases h⟩
  | k + 1, hk => by
    obtain ⟨D, h⟩ := dok hG hK nc k (by omega)
    exact dok_next hG hK (by omega) h
theorem lv_none (hG : GOk vars into bases lo) (hK : KnOk into kn of) (nc : Nat) {v : Nat} (hv : v < into.length) : lv vars into bases lo kn of v = -1 ↔ ∀ j, ¬ GS vars nc into bases lo v j := by
  obtain ⟨D, h⟩ := dok hG hK nc kn.length (Nat.le_refl _)
  obtain ⟨h1, h2⟩ := hK.at_ v hv
  constructor
  · exact fun e j => h.no _ h1 e v h2 j
  · intro hn
    apply Classical.byContradiction
    intro e
    obtain ⟨j, hj⟩ := h.pos _ h1 e v h2
    exact hn j hj
theorem lv_same (hG : GOk vars into bases lo) (hK : KnOk into kn of) (nc : Nat) {v u : Nat} (hv : v < into.length) (hu : u < into.length) (e : lv vars into bases lo kn of v = lv vars into bases lo kn of u) (j : Nat) : GS vars nc into bases lo v j ↔ GS vars nc into bases lo u j := by
  obtain ⟨D, h⟩ := dok hG hK nc kn.length (Nat.le_refl _)
  obtain ⟨h1, h2⟩ := hK.at_ v hv
  obtain ⟨h3, h4⟩ := hK.at_ u hu
  have hl := (labN_ok hG hK kn.length (Nat.le_refl _)).lab _ h1
  by_cases hn : lv vars into bases lo kn of v = -1
  · exact ⟨fun h5 => absurd h5 (h.no _ h1 hn v h2 j), fun h5 => absurd h5 (h.no _ h3 (show lv vars into bases lo kn of u = -1 by rw [← e]; exact hn) u h4 j)⟩
  · obtain ⟨m, hm⟩ := Int.eq_ofNat_of_zero_le (show 0 ≤ lv vars into bases lo kn of v by
      have : lv vars into bases lo kn of v = (labN vars into bases lo kn of kn.length).lab (of v) := rfl
      omega)
    exact (h.so _ m h1 hm v h2 j).trans (h.so _ m h3 (show lv vars into bases lo kn of u = (m : Int) by rw [← e]; exact hm) u h4 j).symm
end
end Go.Proofs.Ytjggjhgbobmkhaa
