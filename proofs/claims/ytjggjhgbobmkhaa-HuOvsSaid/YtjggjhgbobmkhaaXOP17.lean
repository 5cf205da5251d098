/- Labels, in plain words. -/
import Derived.Test.YtjggjhgbobmkhaaXOF17
import Derived.Test.YtjggjhgbobmkhaaY10
import Derived.Test.YtjggjhgbobmkhaaY14
namespace Go.Proofs.Ytjggjhgbobmkhaa
set_option linter.unusedVariables false
set_option linter.unusedSimpArgs false
/-- What comes into a knot: other knots' labels, its own objects, and whether it is loose. -/
def seenX (of : Nat → Nat) (lab : Nat → Int) (k : Nat) (S : List Int) (x : Int) : List Int := if of x.toNat ≠ k ∧ lab (of x.toNat) ≠ -1 then addI S (lab (of x.toNat)) else S
def seenV (into : List (List Int)) (of : Nat → Nat) (lab : Nat → Int) (k : Nat) (S : List Int) (v : Nat) : List Int := (into[v]!).foldl (seenX of lab k) S
def ownV (bases : List (List Int)) (vars : Nat) (W : List Int) (v : Nat) : List Int := if v < vars then (bases[v]!).foldl addI W else W
def looV (lo : List Bool) (b : Bool) (v : Nat) : Bool := b || lo[v]!
structure LabS where
  lab : Nat → Int
  nx : Nat
  ob : Int → Option Nat
section
variable (vars : Nat) (into bases : List (List Int)) (lo : List Bool) (kn : List (List Nat)) (of : Nat → Nat)
def seenK (lab : Nat → Int) (k : Nat) : List Int := (kn[k]!).foldl (seenV into of lab k) []
def ownK (k : Nat) : List Int := (kn[k]!).foldl (ownV bases vars) []
def looK (k : Nat) : Bool := (kn[k]!).foldl (looV lo) false
def labR (s : LabS) (k : Nat) : Int × Nat × (Int → Option Nat) := labelF (seenK into kn of s.lab k) (ownK vars bases kn k) (looK lo kn k) s.ob s.nx
def labN : Nat → LabS
  | 0 => ⟨fun _ => 0, 0, fun _ => none⟩
  | k + 1 => let s := labN k; let r := labR vars into bases lo kn of s k; ⟨setF s.lab k r.1, r.2.1, r.2.2⟩
end
/-- What holds of labels: they are below the next number. -/
structure LOk (k : Nat) (s : LabS) : Prop where
  lab : ∀ j, j < k → -1 ≤ s.lab j ∧ s.lab j < s.nx
  ob : ∀ x m, s.ob x = some m → m < s.nx
  nx : s.nx ≤ k
theorem addI_nodup {L : List Int} (h : L.Nodup) (x : Int) : (addI L x).Nodup := by
  unfold addI
  split
  · exact h
  · rename_i hx
    rw [List.nodup_append]
    exact ⟨h, by simp, fun a ha c hc e => by simp at hc; subst hc; exact hx (e ▸ ha)⟩
theorem addI_all {p : Int → Prop} {L : List Int} {x : Int} (h : ∀ y ∈ L, p y) (hx : p x) : ∀ y ∈ addI L x, p y := fun y hy => by
  rcases addI_mem.1 hy with h1 | rfl
  · exact h y h1
  · exact hx
theorem nodupI_len {L : List Int} {b : Nat} (h : L.Nodup) (hb : ∀ x ∈ L, 0 ≤ x ∧ x < (b : Int)) : L.length ≤ b := by
  have := nodup_lenK (n := b) (l := L.map Int.toNat) (by
    rw [List.nodup_iff_pairwise_ne, List.pairwise_map]
    rw [List.nodup_iff_pairwise_ne] at h
    exact h.imp_of_mem fun {x y} hx hy hne e => hne (by have := hb x hx; have := hb y hy; omega)) (fun v hv => by
    obtain ⟨x, hx, rfl⟩ := List.mem_map.1 hv
    have := hb x hx
    omega)
  simpa using this
theorem fold_inv {α β : Type} {p : α → Prop} {f : α → β → α} (l : List β) (a : α) (ha : p a) (hf : ∀ a b, b ∈ l → p a → p (f a b)) : p (l.foldl f a) := by
  induction l generalizing a with
  | nil => exact ha
  | cons b r ih => exact ih (f a b) (hf a b (by simp) ha) fun a c hc hp => hf a c (by simp [hc]) hp
/-- Own objects: in their range. -/
def OwnP (W : List Int) : Prop := W.Nodup ∧ ∀ x ∈ W, 0 ≤ x ∧ x < 16384
theorem ownV_ok {vars : Nat} {bases : List (List Int)} {W : List Int} {v : Nat} (hb : ∀ v, v < vars → ∀ x ∈ bases[v]!, 0 ≤ x ∧ x < 16384) (h : OwnP W) : OwnP (ownV bases vars W v) := by
  unfold ownV
  split
  · rename_i hv
    exact fold_inv _ _ h fun W x hx hW => ⟨addI_nodup hW.1 x, addI_all hW.2 (hb v hv x hx)⟩
  · exact h
def SeenP (m : Nat) (S : List Int) : Prop := S.Nodup ∧ ∀ x ∈ S, 0 ≤ x ∧ x < (m : Int)
theorem seenX_ok {of : Nat → Nat} {lab : Nat → Int} {k m : Nat} {S : List Int} {x : Int} (hl : ∀ j, j < k → -1 ≤ lab j ∧ lab j < m) (ho : of x.toNat ≤ k) (h : SeenP m S) : SeenP m (seenX of lab k S x) := by
  unfold seenX
  split
  · rename_i hc
    have := hl _ (Nat.lt_of_le_of_ne ho hc.1)
    exact ⟨addI_nodup h.1 _, addI_all h.2 ⟨by omega, by omega⟩⟩
  · exact h
theorem seenV_ok {into : List (List Int)} {of : Nat → Nat} {lab : Nat → Int} {k m : Nat} {S : List Int} {v : Nat} (hl : ∀ j, j < k → -1 ≤ lab j ∧ lab j < m) (ho : ∀ x ∈ into[v]!, of x.toNat ≤ k) (h : SeenP m S) : SeenP m (seenV into of lab k S v) :=
  fold_inv _ _ h fun S x hx hS => seenX_ok hl (ho x hx) hS
theorem labelF_ok {S W : List Int} {b : Bool} {f : Int → Option Nat} {m : Nat} (hS : ∀ x ∈ S, 0 ≤ x ∧ x < (m : Int)) (hf : ∀ x q, f x = some q → q < m) :
    (-1 ≤ (labelF S W b f m).1 ∧ (labelF S W b f m).1 < ((labelF S W b f m).2.1 : Int)) ∧ (m ≤ (labelF S W b f m).2.1 ∧ (labelF S W b f m).2.1 ≤ m + 1) ∧ ∀ x q, (labelF S W b f m).2.2 x = some q → q < (labelF S W b f m).2.1 := by
  unfold labelF
  split
  · refine ⟨⟨?_, ?_⟩, ⟨?_, ?_⟩, ?_⟩
    · simp only; omega
    · simp only; omega
    · simp only; omega
    · simp only; omega
    · intro x q h
      have := hf x q h
      simp only; omega
  · cases S with
    | cons x r =>
      have := hS x (by simp)
      refine ⟨⟨?_, ?_⟩, ⟨?_, ?_⟩, fun x q h => hf x q h⟩ <;> simp only [labelO] <;> omega
    | nil =>
      cases W with
      | nil => refine ⟨⟨?_, ?_⟩, ⟨?_, ?_⟩, fun x q h => hf x q h⟩ <;> simp only [labelO] <;> omega
      | cons o r =>
        cases hq : f o with
        | some q =>
          have := hf o q hq
          have e : labelO [] (o :: r) f m = ((q : Int), m, f) := by simp only [labelO, hq]
          rw [e]
          refine ⟨⟨?_, ?_⟩, ⟨?_, ?_⟩, fun x q h => hf x q h⟩ <;> simp only <;> omega
        | none =>
          have e : labelO [] (o :: r) f m = ((m : Int), m + 1, putN f o m) := by simp only [labelO, hq]
          rw [e]
          refine ⟨⟨?_, ?_⟩, ⟨?_, ?_⟩, fun x q h => ?_⟩
          · simp only; omega
          · simp only; omega
          · simp only; omega
          · simp only; omega
          · simp only at h ⊢
            unfold putN at h
            split at h
            · injection h with h; omega
            · have := hf x q h; omega
section
variable {vars : Nat} {into bases : List (List Int)} {lo : List Bool} {kn : List (List Nat)} {of : Nat → Nat}
theorem seenK_ok (hG : GOk vars into bases lo) (hK : KnOk into kn of) {s : LabS} {k : Nat} (hk : k < kn.length) (h : LOk k s) : SeenP s.nx (seenK into kn of s.lab k) :=
  fold_inv _ _ ⟨.nil, by simp⟩ fun S v hv hS => seenV_ok h.lab (hK.down hG.ri hk hv).2 hS
theorem labN_ok (hG : GOk vars into bases lo) (hK : KnOk into kn of) : ∀ k, k ≤ kn.length → LOk k (labN vars into bases lo kn of k)
  | 0, _ => ⟨fun j hj => absurd hj (Nat.not_lt_zero j), fun x m h => by (cases h), Nat.le_refl _⟩
  | k + 1, hk => by
    have ih := labN_ok hG hK k (by omega)
    have h1 := seenK_ok hG hK (by omega : k < kn.length) ih
    obtain ⟨h2, h3, h4⟩ := labelF_ok (W := ownK vars bases kn k) (b := looK lo kn k) h1.2 ih.ob
    refine ⟨fun j hj => ?_, h4, ?_⟩
    · show -1 ≤ setF _ k _ j ∧ setF _ k _ j < _
      by_cases e : j = k
      · subst e
        rw [setF_at]
        exact h2
      · rw [setF_ne _ _ e]
        have := ih.lab j (by omega)
        have h5 : (labN vars into bases lo kn of k).nx ≤ (labN vars into bases lo kn of (k + 1)).nx := h3.1
        omega
    · have h5 : (labN vars into bases lo kn of (k + 1)).nx ≤ (labN vars into bases lo kn of k).nx + 1 := h3.2
      have := ih.nx
      omega
end
end Go.Proofs.Ytjggjhgbobmkhaa
