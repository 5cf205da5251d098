/- A row of copies: plain. -/
import Derived.Test.YtomldckplkecbaaY18
import Derived.Test.YtomldckplkecbaaXLT16
namespace Go.Proofs.Ytomldckplkecbaa
set_option linter.unusedVariables false
set_option linter.unusedSimpArgs false
def rowCells (k : Nat) : List Cell := [⟨false, (k : Int) + 1, []⟩, ⟨false, (k : Int) + 2, []⟩]
def rowCons (k m : Nat) : List Con := [⟨1, 0, 0, []⟩, ⟨1, (k : Int), 1, []⟩] ++ (List.range m).map fun u => ⟨2, (u : Int) + 1, (u : Int), []⟩
def forkCon (k : Nat) : Con := ⟨2, (k : Int) - 1, (k : Int), []⟩
theorem rowCons_next (k m : Nat) : rowCons k (m + 1) = rowCons k m ++ [⟨2, (m : Int) + 1, (m : Int), []⟩] := by
  unfold rowCons
  rw [List.range_succ, List.map_append]
  simp
theorem rowCons_len (k m : Nat) : (rowCons k m).length = m + 2 := by simp [rowCons]
def rowB (k : Nat) : Nat → List Int := fun v => if v = 0 then [0] else if v = k then [1] else []
theorem addAt_gF {n v : Nat} {f : Nat → List Int} {a x : Int} (ha : a = (v : Int)) (hv : v < n) : addAt (gF n f) a x = gF n (tapp f v x) := by
  unfold addAt
  subst ha
  rw [Int.toNat_natCast]
  exact gF_app hv
theorem rep_gF (n : Nat) : List.replicate n ([] : List Int) = gF n fun _ => [] := by
  apply List.ext_getElem (by simp [gF])
  intro i h1 h2
  simp [gF]
theorem gfold_row {k : Nat} (hk : 2 ≤ k) : ∀ m, m < k → (rowCons k m).foldl (gstep ((k + 3 : Nat) : Int)) (List.replicate (2 * (((k + 3 : Nat) : Int)).toNat) [], List.replicate (((k + 3 : Nat) : Int)).toNat []) = (gF (2 * (k + 3)) (ringF (m + 1)), gF (k + 3) (rowB k))
  | 0, _ => by
    have e0 : rowCons k 0 = [⟨1, 0, 0, []⟩, ⟨1, (k : Int), 1, []⟩] := rfl
    rw [e0, List.foldl_cons, List.foldl_cons, List.foldl_nil, Int.toNat_natCast, rep_gF, rep_gF]
    have e1 : gstep ((k + 3 : Nat) : Int) (gF (2 * (k + 3)) (fun _ => []), gF (k + 3) fun _ => []) ⟨1, 0, 0, []⟩ = (gF (2 * (k + 3)) (fun _ => []), gF (k + 3) (tapp (fun _ => []) 0 0)) := by
      unfold gstep
      rw [if_pos rfl]
      simp only
      rw [show addAt (gF (k + 3) fun _ => []) 0 0 = gF (k + 3) (tapp (fun _ => []) 0 0) from addAt_gF rfl (by omega)]
    rw [e1]
    unfold gstep
    rw [if_pos rfl]
    simp only
    rw [addAt_gF (v := k) rfl (by omega)]
    have e2 : (fun _ => [] : Nat → List Int) = ringF (0 + 1) := by
      funext j
      unfold ringF
      rw [if_neg (by omega)]
    have e3 : tapp (tapp (fun _ => []) 0 0) k 1 = rowB k := by
      funext j
      unfold tapp setF rowB
      by_cases h1 : j = k
      · rw [if_pos h1, if_neg (by omega : ¬ j = 0), if_pos h1, if_neg (by omega : ¬ k = 0)]
        rfl
      · rw [if_neg h1]
        by_cases h2 : j = 0
        · rw [if_pos h2, if_pos h2]
          rfl
        · rw [if_neg h2, if_neg h2, if_neg h1]
    rw [e3, e2]
  | m + 1, hm => by
    rw [rowCons_next, List.foldl_append, gfold_row hk m (by omega), List.foldl_cons, List.foldl_nil]
    unfold gstep
    rw [if_neg (by show ¬ (2 : Int) = 1; decide), if_pos rfl]
    simp only
    rw [addAt_gF (v := m + 1) (by omega) (by omega)]
    congr 2
    have e : ringF (m + 1) (m + 1) = [] := by unfold ringF; rw [if_neg (by omega)]
    unfold tapp
    rw [e, List.nil_append, ← ringF_next (by omega : 1 ≤ m + 1)]
    congr 2
    omega
def rowInto (k : Nat) (fork : Bool) : List (List Int) := gF (2 * (k + 3)) (if fork then tapp (ringF k) (k - 1) k else ringF k)
def rowSys (k : Nat) (fork : Bool) : Sys := ⟨((k + 3 : Nat) : Int), rowCells k, if fork then rowCons k (k - 1) ++ [forkCon k] else rowCons k (k - 1)⟩
theorem gfold_rows {k : Nat} (hk : 2 ≤ k) (fork : Bool) : gfold (rowSys k fork) = (rowInto k fork, gF (k + 3) (rowB k)) := by
  have h := gfold_row hk (k - 1) (by omega)
  rw [show k - 1 + 1 = k by omega] at h
  cases fork with
  | false => exact h
  | true =>
    show (rowCons k (k - 1) ++ [forkCon k]).foldl _ _ = _
    rw [List.foldl_append]
    refine (congrArg (fun p => [forkCon k].foldl (gstep ((k + 3 : Nat) : Int)) p) h).trans ?_
    rw [List.foldl_cons, List.foldl_nil]
    unfold gstep forkCon
    rw [if_neg (by show ¬ (2 : Int) = 1; decide), if_pos rfl]
    simp only
    rw [addAt_gF (v := k - 1) (by omega) (by omega)]
    rfl
theorem con_okN {vars k a b : Int} {cells : Nat} (hk : k = 1 ∨ k = 2) (ha : 0 ≤ a ∧ a < vars) (hb : 0 ≤ b ∧ b < (if k = 1 then (cells : Int) else vars)) : conOk vars cells ⟨k, a, b, []⟩ = true := by
  unfold conOk inR
  have h5 : ¬ k = 5 := by omega
  rw [if_neg h5]
  simp only [Bool.and_eq_true, Bool.or_eq_true, decide_eq_true_eq]
  refine ⟨⟨⟨⟨⟨⟨?_, ?_⟩, ha⟩, hb⟩, ?_⟩, .inr rfl⟩, rfl⟩
  · omega
  · omega
  · simp
theorem cell_okN {vars v : Int} (hv : 0 ≤ v ∧ v < vars) : cellOk vars ⟨false, v, []⟩ = true := by
  unfold cellOk inR
  simp only [Bool.and_eq_true, Bool.or_eq_true, decide_eq_true_eq]
  exact ⟨⟨⟨hv, by simp⟩, .inr rfl⟩, rfl⟩
theorem row_right {k : Nat} (hk : 2 ≤ k) (hk2 : k ≤ 81) (fork : Bool) : rightB (rowSys k fork) = true := by
  have hcon : ∀ c ∈ (rowSys k fork).cons, conOk ((k + 3 : Nat) : Int) 2 c = true := fun c hc => by
    have hm : c ∈ rowCons k (k - 1) ∨ c = forkCon k := by
      unfold rowSys at hc
      cases fork with
      | false => exact .inl hc
      | true => simpa using hc
    rcases hm with hm | rfl
    · unfold rowCons at hm
      simp only [List.mem_append, List.mem_cons, List.not_mem_nil, or_false, List.mem_map, List.mem_range] at hm
      rcases hm with (rfl | rfl) | ⟨u, hu, rfl⟩
      · exact con_okN (.inl rfl) ⟨by omega, by omega⟩ (by rw [if_pos rfl]; omega)
      · exact con_okN (.inl rfl) ⟨by omega, by omega⟩ (by rw [if_pos rfl]; omega)
      · exact con_okN (.inr rfl) ⟨by omega, by omega⟩ (by rw [if_neg (by decide)]; omega)
    · exact con_okN (.inr rfl) ⟨by omega, by omega⟩ (by rw [if_neg (by decide)]; omega)
  have hlen : (rowSys k fork).cons.length ≤ 131072 := by
    unfold rowSys
    cases fork with
    | false => simp [rowCons_len]; omega
    | true => simp [rowCons_len]; omega
  unfold rightB bigOk
  simp only [Bool.and_eq_true, decide_eq_true_eq, List.all_eq_true]
  refine ⟨⟨⟨⟨⟨?_, ?_⟩, ?_⟩, hlen⟩, fun c hc => ?_⟩, hcon⟩
  · show (0 : Int) ≤ ((k + 3 : Nat) : Int); omega
  · show ((k + 3 : Nat) : Int) ≤ 16384; omega
  · show 2 ≤ 16384; omega
  · have hc : c ∈ rowCells k := hc
    unfold rowCells at hc
    simp only [List.mem_cons, List.not_mem_nil, or_false] at hc
    rcases hc with rfl | rfl
    · exact cell_okN (vars := ((k + 3 : Nat) : Int)) ⟨by omega, by omega⟩
    · exact cell_okN (vars := ((k + 3 : Nat) : Int)) ⟨by omega, by omega⟩
theorem markB_ne {L : List Bool} {a : Int} {v : Nat} (h : a ≠ (v : Int)) (hv : v < L.length) : (markB L a)[v]! = L[v]! := by
  unfold markB
  split
  · rw [get_set _ _ _ _ hv, if_neg (by omega)]
  · rfl
theorem row_loose {k : Nat} (fork : Bool) {v : Nat} (hv : v ≤ k) : (looseB (rowSys k fork))[v]! = false := by
  have key : ∀ (l : List Con) (L : List Bool), (∀ c ∈ l, ¬ c.k = 5) → l.foldl conMarks L = L := by
    intro l
    induction l with
    | nil => intro L _; rfl
    | cons c l ih =>
      intro L h
      rw [List.foldl_cons]
      have e : conMarks L c = L := if_neg (h c (by simp))
      rw [e]
      exact ih L fun d hd => h d (by simp [hd])
  have hcon : ∀ c ∈ (rowSys k fork).cons, ¬ c.k = 5 := fun c hc => by
    have hm : c ∈ rowCons k (k - 1) ∨ c = forkCon k := by
      unfold rowSys at hc
      cases fork with
      | false => exact .inl hc
      | true => simpa using hc
    rcases hm with hm | rfl
    · unfold rowCons at hm
      simp only [List.mem_append, List.mem_cons, List.not_mem_nil, or_false, List.mem_map, List.mem_range] at hm
      rcases hm with (rfl | rfl) | ⟨u, hu, rfl⟩
      · show ¬ (1 : Int) = 5; decide
      · show ¬ (1 : Int) = 5; decide
      · show ¬ (2 : Int) = 5; decide
    · show ¬ (2 : Int) = 5; decide
  unfold looseB
  rw [key _ _ hcon]
  have e : (rowSys k fork).cells.foldl cellMarks (List.replicate (rowSys k fork).vars.toNat false) = markB (markB (List.replicate (k + 3) false) ((k : Int) + 1)) ((k : Int) + 2) := rfl
  rw [e, markB_ne (by omega) (by rw [markB_len]; simp; omega), markB_ne (by omega) (by simp; omega), getElem!_pos _ v (by simp; omega)]
  simp
section
variable {k : Nat} {fork : Bool} {kn : List (List Nat)} {of : Nat → Nat}
abbrev rl (k : Nat) (fork : Bool) (kn : List (List Nat)) (of : Nat → Nat) (v : Nat) : Int := lv (k + 3) (rowInto k fork) (gF (k + 3) (rowB k)) (looseB (rowSys k fork) ++ List.replicate (k + 3) true) kn of v
theorem rowInto_at {v : Nat} (hv : v < 2 * (k + 3)) : (rowInto k fork)[v]! = if fork = true ∧ v = k - 1 then ringF k v ++ [(k : Int)] else ringF k v := by
  unfold rowInto
  rw [gF_at _ hv]
  cases fork with
  | false => simp
  | true =>
    simp only [if_true]
    unfold tapp setF
    by_cases e : v = k - 1
    · subst e
      simp
    · simp [e]
theorem rl_all (hk : 2 ≤ k) (hk2 : k ≤ 81) (hG : GOk (k + 3) (rowInto k fork) (gF (k + 3) (rowB k)) (looseB (rowSys k fork) ++ List.replicate (k + 3) true)) (hK : KnOk (rowInto k fork) kn of) :
    (∀ v, v < k - 1 → rl k fork kn of v = rl k fork kn of 0) ∧ rl k fork kn of k ≠ rl k fork kn of 0 ∧ rl k fork kn of (k - 1) ≠ rl k fork kn of k ∧ (rl k fork kn of (k - 1) = rl k fork kn of 0 ↔ fork = false) := by
  have hlen : (rowInto k fork).length = 2 * (k + 3) := hG.ni
  have hr : ∀ u v, Ed (rowInto k fork) u v → (if v < k then v + 1 else 0) < (if u < k then u + 1 else 0) := fun u v ⟨j, h1, h2, h3, h4⟩ => by
    rw [hlen] at h1 h2
    have hm : (v : Int) ∈ (rowInto k fork)[u]! := by rw [← h4, getElem!_pos _ j h3]; exact List.getElem_mem h3
    rw [rowInto_at h1] at hm
    have hrg : ∀ y, y ∈ ringF k u → 1 ≤ u ∧ u < k ∧ y = (u : Int) - 1 := fun y hy => by
      unfold ringF at hy
      split at hy
      · rename_i hc
        simp at hy
        exact ⟨hc.1, hc.2, hy⟩
      · cases hy
    have hcase : (1 ≤ u ∧ u < k ∧ (v : Int) = (u : Int) - 1) ∨ (u = k - 1 ∧ v = k) := by
      split at hm
      · rename_i hc
        rcases List.mem_append.1 hm with h5 | h5
        · exact .inl (hrg _ h5)
        · simp at h5
          exact .inr ⟨hc.2, by omega⟩
      · exact .inl (hrg _ hm)
    rcases hcase with ⟨h5, h6, h7⟩ | ⟨h5, h6⟩
    · rw [if_pos (by omega), if_pos h6]
      omega
    · rw [if_neg (by omega), if_pos (by omega)]
      omega
  have one := rank_one hK _ hr
  have hlo : ∀ v, v ≤ k → (looseB (rowSys k fork) ++ List.replicate (k + 3) true)[v]! = false := fun v hv => by
    have h1 : (looseB (rowSys k fork)).length = k + 3 := by rw [looseB_len]; rfl
    rw [getElem!_pos _ v (by simp [h1]; omega), List.getElem_append_left (by omega), ← getElem!_pos _ v (by omega)]
    exact row_loose fork hv
  have hbs : ∀ v, v < k + 3 → (gF (k + 3) (rowB k))[v]! = rowB k v := fun v hv => gF_at _ hv
  have hin : ∀ v, 1 ≤ v → v < k → ¬ (fork = true ∧ v = k - 1) → (rowInto k fork)[v]! = [((v - 1 : Nat) : Int)] := fun v h1 h2 h3 => by
    rw [rowInto_at (by omega), if_neg h3]
    unfold ringF
    rw [if_pos ⟨h1, h2⟩]
    congr 1
    omega
  have o0 := one 0 (by omega)
  obtain ⟨q, hq, hob⟩ := lv_own hG hK o0 (by omega) (o := 0) (by rw [rowInto_at (by omega), if_neg (by omega)]; unfold ringF; rw [if_neg (by omega)]) (by rw [hbs 0 (by omega)]; unfold rowB; rw [if_pos rfl]) (hlo 0 (by omega))
  obtain ⟨p, hp, hop⟩ := lv_own hG hK (one k (by omega)) (by omega) (o := 1) (by rw [rowInto_at (by omega), if_neg (by omega)]; unfold ringF; rw [if_neg (by omega)]) (by rw [hbs k (by omega)]; unfold rowB; rw [if_neg (by omega), if_pos rfl]) (hlo k (by omega))
  have hqp : q ≠ p := fun e => by
    subst e
    have := ob_inj hG hK kn.length (Nat.le_refl _) 0 1 q hob hop
    omega
  have hb0 : ∀ v, 1 ≤ v → v < k → (gF (k + 3) (rowB k))[v]! = [] := fun v h1 h2 => by
    rw [hbs v (by omega)]
    unfold rowB
    rw [if_neg (by omega), if_neg (by omega)]
  have chain : ∀ v, v < k → ¬ (fork = true ∧ v = k - 1) → rl k fork kn of v = (q : Int) := by
    intro v
    induction v with
    | zero => intro _ _; exact hq
    | succ v ih =>
      intro h1 h2
      have ih := ih (by omega) (by intro h; omega)
      have hc := lv_copy hG hK (one (v + 1) (by omega)) (by omega) (x := v) (by rw [hin (v + 1) (by omega) h1 h2]; rfl) (hb0 (v + 1) (by omega) h1) (hlo (v + 1) (by omega)) ((one v (by omega)).ne (one (v + 1) (by omega)) (by omega)) (by show rl k fork kn of v ≠ -1; rw [ih]; omega)
      exact hc.trans ih
  have hq0 : rl k fork kn of 0 = (q : Int) := hq
  have hpk : rl k fork kn of k = (p : Int) := hp
  have hfork : fork = true → rl k fork kn of (k - 1) ≠ (q : Int) ∧ rl k fork kn of (k - 1) ≠ (p : Int) := fun hf => by
    have hi1 : (rowInto k fork)[k - 1]! = [((k - 2 : Nat) : Int), (k : Int)] := by
      rw [rowInto_at (by omega), if_pos ⟨hf, rfl⟩]
      unfold ringF
      rw [if_pos ⟨by omega, by omega⟩]
      show [((k - 1 : Nat) : Int) - 1, (k : Int)] = _
      congr 1
      omega
    have o1 := one (k - 1) (by omega)
    have ok := hK.at_ (k - 1) (by omega)
    have h2 := chain (k - 2) (by omega) (by intro h; omega)
    have hne2 := (one (k - 2) (by omega)).ne o1 (by omega)
    have hnek := (one k (by omega)).ne o1 (by omega)
    have hseen := o1.seen hG hK
    have m1 := (hseen (q : Int)).2 ⟨((k - 2 : Nat) : Int), by rw [hi1]; simp, by rw [Int.toNat_natCast]; exact hne2, by rw [Int.toNat_natCast]; show rl k fork kn of (k - 2) ≠ -1; rw [h2]; omega, by rw [Int.toNat_natCast]; exact h2.symm⟩
    have m2 := (hseen (p : Int)).2 ⟨(k : Int), by rw [hi1]; simp, by rw [Int.toNat_natCast]; exact hnek, by rw [Int.toNat_natCast]; show rl k fork kn of k ≠ -1; rw [hpk]; omega, by rw [Int.toNat_natCast]; exact hpk.symm⟩
    have hlen2 : 1 < (seenK (rowInto k fork) kn of (labN (k + 3) (rowInto k fork) (gF (k + 3) (rowB k)) (looseB (rowSys k fork) ++ List.replicate (k + 3) true) kn of (of (k - 1))).lab (of (k - 1))).length := by
      generalize seenK (rowInto k fork) kn of (labN (k + 3) (rowInto k fork) (gF (k + 3) (rowB k)) (looseB (rowSys k fork) ++ List.replicate (k + 3) true) kn of (of (k - 1))).lab (of (k - 1)) = S at m1 m2
      cases S with
      | nil => cases m1
      | cons a r =>
        cases r with
        | cons b r => simp
        | nil =>
          simp at m1 m2
          omega
    obtain ⟨f1, _, _⟩ := lv_fresh (vars := k + 3) (bases := gF (k + 3) (rowB k)) (lo := looseB (rowSys k fork) ++ List.replicate (k + 3) true) hK o1 (.inr hlen2)
    have hLO := labN_ok hG hK (of (k - 1)) (Nat.le_of_lt ok.1)
    have hdn := (hK.down hG.ri ok.1 ok.2).2
    rw [hi1] at hdn
    have d2 := hdn ((k - 2 : Nat) : Int) (by simp)
    have dk := hdn (k : Int) (by simp)
    rw [Int.toNat_natCast] at d2 dk
    have l2 := hLO.lab _ (Nat.lt_of_le_of_ne d2 hne2)
    have lk := hLO.lab _ (Nat.lt_of_le_of_ne dk hnek)
    rw [lab_fin (Nat.lt_of_le_of_ne d2 hne2) (Nat.le_of_lt ok.1)] at l2
    rw [lab_fin (Nat.lt_of_le_of_ne dk hnek) (Nat.le_of_lt ok.1)] at lk
    have h2' : Lf (k + 3) (rowInto k fork) (gF (k + 3) (rowB k)) (looseB (rowSys k fork) ++ List.replicate (k + 3) true) kn of (of (k - 2)) = (q : Int) := h2
    have hk' : Lf (k + 3) (rowInto k fork) (gF (k + 3) (rowB k)) (looseB (rowSys k fork) ++ List.replicate (k + 3) true) kn of (of k) = (p : Int) := hpk
    rw [h2'] at l2
    rw [hk'] at lk
    have f1' : rl k fork kn of (k - 1) = _ := f1
    rw [f1']
    exact ⟨by omega, by omega⟩
  refine ⟨fun v hv => by rw [hq0]; exact chain v (by omega) (by intro h; omega), by rw [hq0, hpk]; omega, ?_, ?_⟩
  · cases hf : fork with
    | false =>
      have := chain (k - 1) (by omega) (by rw [hf]; simp)
      rw [hf] at this hpk
      rw [this, hpk]
      omega
    | true =>
      have := (hfork hf).2
      rw [hf] at this hpk
      rw [hpk]
      exact this
  · cases hf : fork with
    | false =>
      have := chain (k - 1) (by omega) (by rw [hf]; simp)
      rw [hf] at this hq0
      rw [this, hq0]
      simp
    | true =>
      have := (hfork hf).1
      rw [hf] at this hq0
      rw [hq0]
      simp [this]
end
end Go.Proofs.Ytomldckplkecbaa
