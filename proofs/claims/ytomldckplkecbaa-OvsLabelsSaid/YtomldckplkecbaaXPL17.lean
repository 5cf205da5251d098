/- Each knot's label, by what comes into it: plain. -/
import Derived.Test.YtomldckplkecbaaXPB17
import Derived.Test.YtomldckplkecbaaY18
namespace Go.Proofs.Ytomldckplkecbaa
set_option linter.unusedVariables false
set_option linter.unusedSimpArgs false
section
variable {vars : Nat} {into bases : List (List Int)} {lo : List Bool} {kn : List (List Nat)} {of : Nat → Nat}
abbrev Fresh (S W : List Int) (b : Bool) : Prop := b = true ∨ 1 < W.length ∨ 1 < S.length ∨ (W.length = 1 ∧ S.length = 1)
/-- Who has the label of a knot that has one of its own gets of it. -/
theorem fresh_reach (hG : GOk vars into bases lo) (hK : KnOk into kn of) {q : Nat} (hq : q < kn.length) (hf : Fresh (seenK into kn of (labN vars into bases lo kn of q).lab q) (ownK vars bases kn q) (looK lo kn q)) :
    ∀ p, p < kn.length → Lf vars into bases lo kn of p = Lf vars into bases lo kn of q → ∀ v ∈ kn[p]!, ∀ u ∈ kn[q]!, Rg into v u := by
  have hLq := labN_ok hG hK q (Nat.le_of_lt hq)
  have hlab : Lf vars into bases lo kn of q = ((labN vars into bases lo kn of q).nx : Int) ∧ (labN vars into bases lo kn of (q + 1)).nx = (labN vars into bases lo kn of q).nx + 1 ∧ (labN vars into bases lo kn of (q + 1)).ob = (labN vars into bases lo kn of q).ob := by
    have e1 := Lf_eq (vars := vars) (into := into) (bases := bases) (lo := lo) (of := of) hq
    unfold labR at e1
    have e3 : labelF (seenK into kn of (labN vars into bases lo kn of q).lab q) (ownK vars bases kn q) (looK lo kn q) (labN vars into bases lo kn of q).ob (labN vars into bases lo kn of q).nx = (((labN vars into bases lo kn of q).nx : Int), (labN vars into bases lo kn of q).nx + 1, (labN vars into bases lo kn of q).ob) := if_pos hf
    rw [e3] at e1
    refine ⟨e1, ?_, ?_⟩
    · show (labelF _ _ _ _ _).2.1 = _
      rw [e3]
    · show (labelF _ _ _ _ _).2.2 = _
      rw [e3]
  obtain ⟨hm, hnx, hob⟩ := hlab
  have inner : ∀ p a b, p < kn.length → a ∈ kn[p]! → b ∈ kn[p]! → Rg into a b := fun p a b hp ha hb => by
    obtain ⟨h1, h2⟩ := (hK.kn p hp).2.2 a ha
    obtain ⟨h3, h4⟩ := (hK.kn p hp).2.2 b hb
    exact ((hK.scc a b h1 h3).1 (by rw [h2, h4])).1
  intro p
  induction p using Nat.strongRecOn with
  | ind p ih =>
    intro hp he v hv u hu
    rw [hm] at he
    rcases Nat.lt_trichotomy p q with h1 | h1 | h1
    · have := (hLq.lab p h1).2
      rw [lab_fin h1 (Nat.le_of_lt hq)] at this
      omega
    · subst h1
      exact inner p v u hp hv hu
    · have hLp := labN_ok hG hK p (Nat.le_of_lt hp)
      have hmono : (labN vars into bases lo kn of (q + 1)).nx ≤ (labN vars into bases lo kn of p).nx := by
        obtain ⟨d, hd⟩ : ∃ d, p = q + 1 + d := ⟨p - (q + 1), by omega⟩
        rw [hd]
        exact nx_mono hG hK d (by omega)
      have e1 := Lf_eq (vars := vars) (into := into) (bases := bases) (lo := lo) (of := of) hp
      rw [he] at e1
      unfold labR at e1
      have hS0 : ∀ y, y ∈ seenK into kn of (labN vars into bases lo kn of p).lab p ↔ _ := fun y => mem_seenK
      obtain ⟨S, hS⟩ : ∃ S, S = seenK into kn of (labN vars into bases lo kn of p).lab p := ⟨_, rfl⟩
      rw [← hS] at e1 hS0
      generalize ownK vars bases kn p = W at e1
      unfold labelF at e1
      split at e1
      · simp only at e1
        omega
      · cases S with
        | cons x r =>
          have e1 : ((labN vars into bases lo kn of q).nx : Int) = x := e1
          obtain ⟨w, hw, y, hy, h2, h3, h4⟩ := (hS0 x).1 (by simp)
          obtain ⟨hwl, hd⟩ := hK.down hG.ri hp hw
          have hlt := Nat.lt_of_le_of_ne (hd y hy) h2
          have hyl : y.toNat < into.length := by have := hG.ri w hwl y hy; omega
          rw [lab_fin hlt (Nat.le_of_lt hp)] at h4
          have := ih (of y.toNat) hlt (by omega) (by rw [hm, ← h4, e1]) y.toNat (hK.at_ y.toNat hyl).2 u hu
          exact (inner p v w hp hv hw).trans (.step (ed_of hG.ri hwl hy) this)
        | nil =>
          cases W with
          | nil => simp only [labelO] at e1; omega
          | cons o r =>
            cases hoq : (labN vars into bases lo kn of p).ob o with
            | none =>
              simp only [labelO, hoq] at e1
              omega
            | some z =>
              simp only [labelO, hoq] at e1
              have hz : z = (labN vars into bases lo kn of q).nx := by omega
              subst hz
              obtain ⟨d, hd⟩ : ∃ d, p = q + 1 + d := ⟨p - (q + 1), by omega⟩
              rw [hd] at hoq
              cases hoo : (labN vars into bases lo kn of (q + 1)).ob o with
              | none =>
                have := ob_late hG hK hoo d (by omega) hoq
                omega
              | some z2 =>
                have h3 := ob_keep hoo d
                rw [hoq] at h3
                injection h3 with h3
                rw [hob] at hoo
                have := hLq.ob o z2 hoo
                omega
end
/-- What the law reckons: labels that come into a knot, each once; and whether loaded ones do. -/
def inX (n : Nat) (of : Nat → Nat) (l : Nat → Int) (k : Nat) (S : List Int) (x : Int) : List Int := if of x.toNat ≠ k ∧ x.toNat < n ∧ 0 ≤ l x.toNat then addI S (l x.toNat) else S
def inV (into : List (List Int)) (n : Nat) (of : Nat → Nat) (l : Nat → Int) (k : Nat) (S : List Int) (w : Nat) : List Int := (into[w]!).foldl (inX n of l k) S
def rfX (n : Nat) (of : Nat → Nat) (k : Nat) (b : Bool) (x : Int) : Bool := b || (decide (of x.toNat ≠ k) && decide (n ≤ x.toNat))
def rfV (into : List (List Int)) (n : Nat) (of : Nat → Nat) (k : Nat) (b : Bool) (w : Nat) : Bool := (into[w]!).foldl (rfX n of k) b
theorem mem_inX {n : Nat} {of : Nat → Nat} {l : Nat → Int} {k : Nat} {v : Nat} : ∀ (L S : List Int) (y : Int), y ∈ L.foldl (inX n of l k) S ↔ y ∈ S ∨ ∃ x ∈ L, of x.toNat ≠ k ∧ x.toNat < n ∧ 0 ≤ l x.toNat ∧ y = l x.toNat
  | [], S, y => by simp
  | x :: L, S, y => by
    rw [List.foldl_cons, mem_inX (v := v) L]
    unfold inX
    by_cases hc : of x.toNat ≠ k ∧ x.toNat < n ∧ 0 ≤ l x.toNat
    · rw [if_pos hc, addI_mem]
      constructor
      · rintro ((h | h) | ⟨z, hz, h⟩)
        · exact .inl h
        · exact .inr ⟨x, by simp, hc.1, hc.2.1, hc.2.2, h⟩
        · exact .inr ⟨z, by simp [hz], h⟩
      · rintro (h | ⟨z, hz, h⟩)
        · exact .inl (.inl h)
        · rcases List.mem_cons.1 hz with rfl | hz
          · exact .inl (.inr h.2.2.2)
          · exact .inr ⟨z, hz, h⟩
    · rw [if_neg hc]
      constructor
      · rintro (h | ⟨z, hz, h⟩)
        · exact .inl h
        · exact .inr ⟨z, by simp [hz], h⟩
      · rintro (h | ⟨z, hz, h⟩)
        · exact .inl h
        · rcases List.mem_cons.1 hz with rfl | hz
          · exact absurd ⟨h.1, h.2.1, h.2.2.1⟩ hc
          · exact .inr ⟨z, hz, h⟩
theorem rfX_iff {n : Nat} {of : Nat → Nat} {k : Nat} : ∀ (L : List Int) (b : Bool), L.foldl (rfX n of k) b = true ↔ b = true ∨ ∃ x ∈ L, of x.toNat ≠ k ∧ n ≤ x.toNat
  | [], b => by simp
  | x :: L, b => by
    rw [List.foldl_cons, rfX_iff L]
    unfold rfX
    simp only [Bool.or_eq_true, Bool.and_eq_true, decide_eq_true_eq, List.mem_cons, exists_eq_or_imp, or_assoc]
theorem rfV_iff {into : List (List Int)} {n : Nat} {of : Nat → Nat} {k : Nat} : ∀ (L : List Nat) (b : Bool), L.foldl (rfV into n of k) b = true ↔ b = true ∨ ∃ w ∈ L, ∃ x ∈ into[w]!, of x.toNat ≠ k ∧ n ≤ x.toNat
  | [], b => by simp
  | w :: L, b => by
    rw [List.foldl_cons, rfV_iff L]
    unfold rfV
    rw [rfX_iff]
    simp only [List.mem_cons, exists_eq_or_imp, or_assoc]
def comeK (into : List (List Int)) (n : Nat) (kn : List (List Nat)) (of : Nat → Nat) (l : Nat → Int) (k : Nat) : List Int := (kn[k]!).foldl (inV into n of l k) []
def rfK (into : List (List Int)) (n : Nat) (kn : List (List Nat)) (of : Nat → Nat) (k : Nat) : Bool := (kn[k]!).foldl (rfV into n of k) false
theorem mem_comeK {into : List (List Int)} {n : Nat} {kn : List (List Nat)} {of : Nat → Nat} {l : Nat → Int} {k : Nat} {y : Int} : y ∈ comeK into n kn of l k ↔ ∃ w ∈ kn[k]!, ∃ x ∈ into[w]!, of x.toNat ≠ k ∧ x.toNat < n ∧ 0 ≤ l x.toNat ∧ y = l x.toNat := by
  unfold comeK
  rw [mem_foldV (p := fun v y => ∃ x ∈ into[v]!, of x.toNat ≠ k ∧ x.toNat < n ∧ 0 ≤ l x.toNat ∧ y = l x.toNat) (f := inV into n of l k) (fun S v y => mem_inX (v := v) into[v]! S y)]
  simp
theorem inX_nodup {n : Nat} {of : Nat → Nat} {l : Nat → Int} {k : Nat} {S : List Int} {x : Int} (h : S.Nodup) : (inX n of l k S x).Nodup := by
  unfold inX
  split
  · exact addI_nodup h _
  · exact h
theorem comeK_nodup {into : List (List Int)} {n : Nat} {kn : List (List Nat)} {of : Nat → Nat} {l : Nat → Int} {k : Nat} : (comeK into n kn of l k).Nodup :=
  fold_inv _ _ .nil fun S w _ hS => fold_inv _ _ hS fun S x _ hS => inX_nodup hS
theorem nodup_sub : ∀ {A B : List Int}, A.Nodup → (∀ x ∈ A, x ∈ B) → A.length ≤ B.length
  | [], _, _, _ => by simp
  | a :: A, B, h, hs => by
    have h1 := List.nodup_cons.1 h
    have ha := hs a (by simp)
    have := nodup_sub (B := B.erase a) h1.2 fun x hx => (List.mem_erase_of_ne (a := x) (fun e => h1.1 (by rw [← e]; exact hx))).2 (hs x (by simp [hx]))
    rw [List.length_erase_of_mem ha] at this
    have hp := List.length_pos_of_mem ha
    rw [List.length_cons]
    omega
section
variable {n : Nat} {xs : List Cell} {ys : List Con} {kn kn2 : List (List Nat)} {of of2 : Nat → Nat}
structure LabF (b : Bool) (W S : List Int) (R : Bool) (lv : Int) (up : Prop) : Prop where
  f1 : b = false → W = [] → S = [] → R = false → lv = -1
  f2 : b = false → W = [] → S.length = 1 → R = false → lv = S[0]!
  f3 : b = true ∨ 0 < W.length ∨ 0 < S.length ∨ R = true → lv ≠ -1
  f4 : b = true ∨ 1 < W.length + S.length → up
theorem labels_ok (hr : rightB ⟨n, xs, ys⟩ = true) (hK : KnOk (gInto n xs ys) kn of) (hK2 : KnOk (gInto n xs ys) kn2 of2) {l : Nat → Int} (hl : ∀ v, v < 2 * n → l v = lv n (gInto n xs ys) (gBases n xs ys) (gLoose n xs ys) kn of v) {k v : Nat} (hk : k < kn2.length) (hvk : v ∈ kn2[k]!) (hv : v < n) :
    LabF (looK (gLoose n xs ys) kn2 k) (ownK n (gBases n xs ys) kn2 k) (comeK (gInto n xs ys) n kn2 of2 l k) (rfK (gInto n xs ys) n kn2 of2 k) (l v) (∀ u, u < n → l u = l v → of2 v ≤ of2 u) := by
  have hG : GOk n (gInto n xs ys) (gBases n xs ys) (gLoose n xs ys) := gok hr
  have hni : (gInto n xs ys).length = 2 * n := hG.ni
  obtain ⟨hvl, hv2⟩ := (hK2.kn k hk).2.2 v hvk
  obtain ⟨hp, hvp⟩ := hK.at_ v hvl
  have same : ∀ a b, a < 2 * n → b < 2 * n → (of2 a = of2 b ↔ of a = of b) := fun a b ha hb => (hK2.scc a b (by omega) (by omega)).trans (hK.scc a b (by omega) (by omega)).symm
  have hmem : ∀ w, w ∈ kn2[k]! ↔ w ∈ kn[of v]! := fun w => by
    constructor
    · intro hw
      obtain ⟨h1, h2⟩ := (hK2.kn k hk).2.2 w hw
      have := (same w v (by omega) (by omega)).1 (by rw [h2, hv2])
      rw [← this]
      exact (hK.at_ w h1).2
    · intro hw
      obtain ⟨h1, h2⟩ := (hK.kn (of v) hp).2.2 w hw
      have := (same w v (by omega) (by omega)).2 h2
      rw [← hv2, ← this]
      exact (hK2.at_ w h1).2
  have hx2 : ∀ w ∈ kn[of v]!, ∀ x ∈ (gInto n xs ys)[w]!, x.toNat < 2 * n ∧ Ed (gInto n xs ys) w x.toNat ∧ (of2 x.toNat ≠ k ↔ of x.toNat ≠ of v) := fun w hw x hx => by
    obtain ⟨h1, h2⟩ := (hK.kn (of v) hp).2.2 w hw
    have := hG.ri w h1 x hx
    refine ⟨by omega, ed_of hG.ri h1 hx, not_congr ?_⟩
    rw [← hv2]
    exact same x.toNat v (by omega) (by omega)
  have hlge : ∀ u, u < 2 * n → -1 ≤ l u := fun u hu => by
    rw [hl u hu]
    exact ((labN_ok hG hK kn.length (Nat.le_refl _)).lab _ (hK.at_ u (by omega)).1).1
  have hW0 : ∀ y, y ∈ ownK n (gBases n xs ys) kn2 k ↔ y ∈ ownK n (gBases n xs ys) kn (of v) := fun y => by
    rw [mem_ownK, mem_ownK]
    exact exists_congr fun w => and_congr (hmem w) Iff.rfl
  have hWn1 : (ownK n (gBases n xs ys) kn2 k).Nodup := (fold_inv (p := OwnP) _ _ ⟨.nil, by simp⟩ fun S a ha hS => ownV_ok (fun v hv => hG.rb v (by rw [hG.nb]; exact hv)) hS).1
  have hWn2 : (ownK n (gBases n xs ys) kn (of v)).Nodup := (fold_inv (p := OwnP) _ _ ⟨.nil, by simp⟩ fun S a ha hS => ownV_ok (fun v hv => hG.rb v (by rw [hG.nb]; exact hv)) hS).1
  have hL0 : looK (gLoose n xs ys) kn2 k = looK (gLoose n xs ys) kn (of v) := by
    rw [Bool.eq_iff_iff, looK_iff, looK_iff]
    exact exists_congr fun w => and_congr (hmem w) Iff.rfl
  have hR0 : rfK (gInto n xs ys) n kn2 of2 k = true ↔ ∃ w ∈ kn[of v]!, ∃ x ∈ (gInto n xs ys)[w]!, of x.toNat ≠ of v ∧ n ≤ x.toNat := by
    unfold rfK
    rw [rfV_iff]
    simp only [Bool.false_eq_true, false_or]
    exact exists_congr fun w => ⟨fun ⟨h1, x, h2, h3, h4⟩ => ⟨(hmem w).1 h1, x, h2, (hx2 w ((hmem w).1 h1) x h2).2.2.1 h3, h4⟩, fun ⟨h1, x, h2, h3, h4⟩ => ⟨(hmem w).2 h1, x, h2, (hx2 w h1 x h2).2.2.2 h3, h4⟩⟩
  have hLF : ∀ x : Nat, x < 2 * n → of x < of v → (labN n (gInto n xs ys) (gBases n xs ys) (gLoose n xs ys) kn of (of v)).lab (of x) = l x := fun x hx hlt => by
    rw [lab_fin hlt (Nat.le_of_lt hp), hl x hx]
  have hdn := fun w hw => (hK.down hG.ri hp (v := w) hw).2
  have hI0 : ∀ y, y ∈ comeK (gInto n xs ys) n kn2 of2 l k ↔ ∃ w ∈ kn[of v]!, ∃ x ∈ (gInto n xs ys)[w]!, of x.toNat ≠ of v ∧ x.toNat < n ∧ l x.toNat ≠ -1 ∧ y = l x.toNat := fun y => by
    rw [mem_comeK]
    exact exists_congr fun w => ⟨fun ⟨h1, x, h2, h3, h4, h5, h6⟩ => ⟨(hmem w).1 h1, x, h2, (hx2 w ((hmem w).1 h1) x h2).2.2.1 h3, h4, by omega, h6⟩, fun ⟨h1, x, h2, h3, h4, h5, h6⟩ => ⟨(hmem w).2 h1, x, h2, (hx2 w h1 x h2).2.2.2 h3, h4, by have := hlge x.toNat (hx2 w h1 x h2).1; omega, h6⟩⟩
  have hS0 : ∀ y, y ∈ seenK (gInto n xs ys) kn of (labN n (gInto n xs ys) (gBases n xs ys) (gLoose n xs ys) kn of (of v)).lab (of v) ↔ ∃ w ∈ kn[of v]!, ∃ x ∈ (gInto n xs ys)[w]!, of x.toNat ≠ of v ∧ l x.toNat ≠ -1 ∧ y = l x.toNat := fun y => by
    rw [mem_seenK]
    exact exists_congr fun w => and_congr_right fun h1 => exists_congr fun x => and_congr_right fun h2 => and_congr_right fun h3 => by rw [hLF x.toNat (hx2 w h1 x h2).1 (Nat.lt_of_le_of_ne (hdn w h1 x h2) h3)]
  have hIS : ∀ y ∈ comeK (gInto n xs ys) n kn2 of2 l k, y ∈ seenK (gInto n xs ys) kn of (labN n (gInto n xs ys) (gBases n xs ys) (gLoose n xs ys) kn of (of v)).lab (of v) := fun y hy => by
    obtain ⟨w, h1, x, h2, h3, h4, h5, h6⟩ := (hI0 y).1 hy
    exact (hS0 y).2 ⟨w, h1, x, h2, h3, h5, h6⟩
  have hSn := (seenK_ok hG hK hp (labN_ok hG hK (of v) (Nat.le_of_lt hp))).1
  have hIn : (comeK (gInto n xs ys) n kn2 of2 l k).Nodup := comeK_nodup
  have hnr : rfK (gInto n xs ys) n kn2 of2 k = false → ∀ y ∈ seenK (gInto n xs ys) kn of (labN n (gInto n xs ys) (gBases n xs ys) (gLoose n xs ys) kn of (of v)).lab (of v), y ∈ comeK (gInto n xs ys) n kn2 of2 l k := fun hf y hy => by
    obtain ⟨w, h1, x, h2, h3, h5, h6⟩ := (hS0 y).1 hy
    refine (hI0 y).2 ⟨w, h1, x, h2, h3, ?_, h5, h6⟩
    apply Classical.byContradiction
    intro hx
    rw [hR0.2 ⟨w, h1, x, h2, h3, by omega⟩] at hf
    cases hf
  have e1 := Lf_eq (vars := n) (into := gInto n xs ys) (bases := gBases n xs ys) (lo := gLoose n xs ys) (of := of) hp
  have e0 : l v = Lf n (gInto n xs ys) (gBases n xs ys) (gLoose n xs ys) kn of (of v) := hl v (by omega)
  unfold labR at e1
  rw [← e0, ← hL0] at e1
  have hne : ∀ j, GS n xs.length (gInto n xs ys) (gBases n xs ys) (gLoose n xs ys) v j → l v ≠ -1 := fun j hj e => by
    rw [hl v (by omega)] at e
    exact (lv_none hG hK xs.length hvl).1 e j hj
  have hrgv : ∀ w ∈ kn[of v]!, Rg (gInto n xs ys) v w := fun w hw => by
    obtain ⟨h1, h2⟩ := (hK.kn (of v) hp).2.2 w hw
    exact ((hK.scc v w hvl h1).1 h2.symm).1
  have nilW : ownK n (gBases n xs ys) kn2 k = [] → ownK n (gBases n xs ys) kn (of v) = [] := fun h => nil_of_no fun y hy => by
    have := (hW0 y).2 hy
    rw [h] at this
    cases this
  refine ⟨fun hb hW hS hR => ?_, fun hb hW hS hR => ?_, fun h => ?_, fun h u hu he => ?_⟩
  · have h1 : seenK (gInto n xs ys) kn of (labN n (gInto n xs ys) (gBases n xs ys) (gLoose n xs ys) kn of (of v)).lab (of v) = [] := nil_of_no fun y hy => by
      have := hnr hR y hy
      rw [hS] at this
      cases this
    rw [h1, nilW hW, hb, labelF_none] at e1
    exact e1
  · have h1 : seenK (gInto n xs ys) kn of (labN n (gInto n xs ys) (gBases n xs ys) (gLoose n xs ys) kn of (of v)).lab (of v) = comeK (gInto n xs ys) n kn2 of2 l k := by
      have h2 := nodup_sub hSn (hnr hR)
      have h3 := hIS
      have h4 := hnr hR
      generalize seenK (gInto n xs ys) kn of (labN n (gInto n xs ys) (gBases n xs ys) (gLoose n xs ys) kn of (of v)).lab (of v) = S at h2 h3 h4
      generalize comeK (gInto n xs ys) n kn2 of2 l k = I at hS h2 h3 h4
      match I, hS with
      | [y], _ =>
        have h5 := h3 y (by simp)
        match S, h2 with
        | [], _ => cases h5
        | [z], _ => simp at h5; rw [h5]
        | _ :: _ :: _, h2 => simp at h2
    rw [h1, nilW hW, hb] at e1
    have e3 : ∀ (f : Int → Option Nat) (m : Nat), (labelF (comeK (gInto n xs ys) n kn2 of2 l k) [] false f m).1 = (comeK (gInto n xs ys) n kn2 of2 l k)[0]! := fun f m => by
      unfold labelF
      rw [if_neg (by rw [hS]; simp)]
      generalize comeK (gInto n xs ys) n kn2 of2 l k = I at hS
      match I, hS with
      | [y], _ => rfl
    rw [e3] at e1
    exact e1
  · rcases h with h | h | h | h
    · rw [hL0] at h
      obtain ⟨w, hw, h2⟩ := looK_iff.1 h
      exact hne (xs.length + w) ⟨w, hrgv w hw, .inr ⟨h2, rfl⟩⟩
    · obtain ⟨y, hy⟩ := List.exists_mem_of_length_pos h
      obtain ⟨w, hw, h2, h3⟩ := mem_ownK.1 ((hW0 y).1 hy)
      have := (hG.rb w (by rw [hG.nb]; exact h2) y h3).1
      obtain ⟨j, rfl⟩ := Int.eq_ofNat_of_zero_le this
      exact hne j ⟨w, hrgv w hw, .inl ⟨h2, h3⟩⟩
    · obtain ⟨y, hy⟩ := List.exists_mem_of_length_pos h
      obtain ⟨w, hw, x, h2, h3, h4, h5, h6⟩ := (hI0 y).1 hy
      have hx := hx2 w hw x h2
      rw [hl x.toNat (by omega)] at h5
      have h7 : ∃ j, GS n xs.length (gInto n xs ys) (gBases n xs ys) (gLoose n xs ys) x.toNat j := by
        apply Classical.byContradiction
        intro hno
        exact h5 ((lv_none hG hK xs.length (v := x.toNat) (by omega)).2 fun j hj => hno ⟨j, hj⟩)
      obtain ⟨j, hj⟩ := h7
      exact hne j (GS.rg ((hrgv w hw).trans (.one hx.2.1)) hj)
    · obtain ⟨w, hw, x, h2, h3, h4⟩ := hR0.1 h
      have hx := hx2 w hw x h2
      exact hne (xs.length + x.toNat) ⟨x.toNat, (hrgv w hw).trans (.one hx.2.1), .inr ⟨loose_ref h4 hx.1, rfl⟩⟩
  · have hWl : (ownK n (gBases n xs ys) kn2 k).length ≤ (ownK n (gBases n xs ys) kn (of v)).length := nodup_sub hWn1 fun y hy => (hW0 y).1 hy
    have hSl := nodup_sub hIn hIS
    have hF : Fresh (seenK (gInto n xs ys) kn of (labN n (gInto n xs ys) (gBases n xs ys) (gLoose n xs ys) kn of (of v)).lab (of v)) (ownK n (gBases n xs ys) kn (of v)) (looK (gLoose n xs ys) kn (of v)) := by
      rcases h with h | h
      · exact .inl (by rw [← hL0]; exact h)
      · unfold Fresh
        omega
    have hul : u < (gInto n xs ys).length := by omega
    have := fresh_reach hG hK hp hF (of u) (hK.at_ u hul).1 (by
      have h1 := hl u (by omega)
      rw [he, e0] at h1
      exact h1.symm) u (hK.at_ u hul).2 v hvp
    exact hK2.ord u v hul hvl this
end
end Go.Proofs.Ytomldckplkecbaa
