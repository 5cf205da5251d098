/- Several texts of one claim in one file: PW19 L1502 L1503 R0. -/
import Derived.Test.YtjggjhgbobmkhaaA24
import Derived.Test.YtjggjhgbobmkhaaA13
import Derived.Test.YtjggjhgbobmkhaaA16
import Derived.Test.YtjggjhgbobmkhaaA1
/- The least map of a smaller system: plain. -/
namespace Go.Proofs.Ytjggjhgbobmkhaa
set_option linter.unusedVariables false
set_option linter.unusedSimpArgs false
theorem nxt_mono (l : Nat → Int) : ∀ {a b : Nat}, a ≤ b → nxt l a ≤ nxt l b := by
  intro a b h
  induction b with
  | zero => rw [show a = 0 by omega]; exact Nat.le_refl _
  | succ b ih =>
    by_cases e : a = b + 1
    · rw [e]; exact Nat.le_refl _
    · have h1 := ih (by omega)
      have h2 : nxt l b ≤ nxt l (b + 1) := by
        show nxt l b ≤ (if l b = (nxt l b : Int) then nxt l b + 1 else nxt l b)
        split <;> omega
      omega
theorem canon_lt {n : Nat} {wh : Nat → Int} {E : Nat → Nat → Prop} {Z : Nat → Prop} (h : Canon n wh E Z) {v : Nat} (hv : v < n) : wh v < (nxt wh n : Int) := by
  have h1 := (h.le v hv).2
  have h2 : nxt wh (v + 1) ≤ nxt wh n := nxt_mono wh hv
  have h3 : nxt wh (v + 1) = if wh v = (nxt wh v : Int) then nxt wh v + 1 else nxt wh v := rfl
  split at h3 <;> omega
/-- How a smaller system's variables stand for the greater one's. -/
structure WOk (n : Nat) (xs : List Cell) (ys : List Con) (M : Mat) (wh : Nat → Int) (cnt : Nat) (less : Bool) : Prop where
  rng : ∀ v, v < n → -1 ≤ wh v ∧ wh v < (cnt : Int)
  cnt : cnt ≤ n
  row : ∀ v u, v < n → u < n → 0 ≤ wh v → wh v = wh u → ∀ o, mg M v o = true ↔ mg M u o = true
  none : ∀ v, v < n → wh v < 0 → ∀ o, ¬ mg M v o = true
  loo : ∀ v, v < n → looseAt ⟨(n : Int), xs, ys⟩ v = true → 0 ≤ wh v
  all : less = false → ∀ v, v < n → 0 ≤ wh v
section
variable {n cnt : Nat} {xs : List Cell} {ys : List Con} {M M' : Mat} {wh : Nat → Int} {less : Bool}
theorem shN_mem {y : Con} (h : y ∈ shN wh less ys) : (∃ c ∈ ys, y = shX wh c) ∧ (less = true → emptyC y = false) := by
  have key : ∀ (l : List Con) (out : List Con), y ∈ l.foldl (shStep wh less) out → y ∈ out ∨ ((∃ c ∈ l, y = shX wh c) ∧ (less = true → emptyC y = false)) := by
    intro l
    induction l with
    | nil => intro out h; exact .inl h
    | cons c l ih =>
      intro out h
      rcases ih _ h with h1 | ⟨⟨d, h1, h2⟩, h3⟩
      · unfold shStep at h1
        split at h1
        · exact .inl h1
        · rename_i hc
          rcases List.mem_append.1 h1 with h1 | h1
          · exact .inl h1
          · simp at h1
            refine .inr ⟨⟨c, by simp, h1⟩, fun hl => Bool.eq_false_iff.2 fun he => hc ?_⟩
            rw [hl, ← h1, he]
            rfl
      · exact .inr ⟨⟨d, by simp [h1], h2⟩, h3⟩
  rcases key ys [] h with h | h
  · cases h
  · exact h
theorem shN_has {c : Con} (h : c ∈ ys) : (less = true ∧ emptyC (shX wh c) = true) ∨ shX wh c ∈ shN wh less ys := by
  have mono : ∀ (l : List Con) (out : List Con) (y : Con), y ∈ out → y ∈ l.foldl (shStep wh less) out := by
    intro l
    induction l with
    | nil => intro out y h; exact h
    | cons d l ih =>
      intro out y h
      refine ih _ y ?_
      unfold shStep
      split
      · exact h
      · simp [h]
  have key : ∀ (l : List Con) (out : List Con), c ∈ l → (less = true ∧ emptyC (shX wh c) = true) ∨ shX wh c ∈ l.foldl (shStep wh less) out := by
    intro l
    induction l with
    | nil => intro out h; cases h
    | cons d l ih =>
      intro out h
      rcases List.mem_cons.1 h with rfl | h
      · by_cases hc : (less && (emptyC (shX wh c) || inC out (shX wh c))) = true
        · simp only [Bool.and_eq_true, Bool.or_eq_true] at hc
          rcases hc.2 with h1 | h1
          · exact .inl ⟨hc.1, h1⟩
          · exact .inr (mono l _ _ (by unfold shStep; split; exact inC_iff.1 h1; simp))
        · refine .inr (mono l _ _ ?_)
          unfold shStep
          rw [if_neg hc]
          simp
      · exact ih _ h
  exact key ys [] h
theorem at_nn (h : WOk n xs ys M wh cnt less) {x : Int} (h0 : 0 ≤ x) : atF wh x = wh x.toNat := if_neg (by omega)
theorem at_pos {x : Int} (h : 0 ≤ atF wh x) : 0 ≤ x ∧ atF wh x = wh x.toNat := by
  unfold atF at h ⊢
  split at h
  · omega
  · rename_i h1
    rw [if_neg h1]
    exact ⟨by omega, rfl⟩
theorem sh_right (hr : rightB ⟨n, xs, ys⟩ = true) (h : WOk n xs ys M wh cnt less) : rightB ⟨(cnt : Int), xs.map (shC wh), shN wh less ys⟩ = true := by
  obtain ⟨hn, hnx, hny⟩ := right_few hr
  have hP := right_conP hr
  have hX := right_cellP hr
  have hlen := shN_len wh less ys
  have hcn := h.cnt
  have atr : ∀ x : Int, -1 ≤ x → x < (n : Int) → -1 ≤ atF wh x ∧ (atF wh x < (cnt : Int) ∨ atF wh x = -1) := fun x h1 h2 => by
    by_cases h0 : x < 0
    · have e : atF wh x = -1 := if_pos h0
      omega
    · have := h.rng x.toNat (by omega)
      rw [at_nn h (by omega)]
      omega
  have hr0 := hr
  simp only [rightB, bigOk, Bool.and_eq_true, decide_eq_true_eq, List.all_eq_true] at hr0
  unfold rightB bigOk
  simp only [Bool.and_eq_true, decide_eq_true_eq, List.all_eq_true]
  refine ⟨⟨⟨⟨⟨by omega, by omega⟩, by rw [List.length_map]; omega⟩, by omega⟩, fun c hc => ?_⟩, fun y hy => ?_⟩
  · obtain ⟨x, hx, rfl⟩ := List.mem_map.1 hc
    obtain ⟨h1, h2, h3⟩ := hX x hx
    have h4 := hr0.1.2 x hx
    simp only [cellOk, inR, Bool.and_eq_true, Bool.or_eq_true, decide_eq_true_eq, List.all_eq_true] at h4
    unfold cellOk inR shC
    simp only [Bool.and_eq_true, Bool.or_eq_true, decide_eq_true_eq, List.all_eq_true, List.length_map]
    have hw := h.loo x.v.toNat (by omega) (loose_cell hx (.inl (by omega)))
    have hw2 := h.rng x.v.toNat (by omega)
    rw [at_nn h h1.1]
    refine ⟨⟨⟨⟨hw, hw2.2⟩, h2⟩, h4.1.2⟩, fun z hz => ?_⟩
    obtain ⟨q, hq, rfl⟩ := List.mem_map.1 hz
    have hq2 := h3 q hq
    have hw := h.loo q.toNat (by omega) (loose_cell hx (.inr (by rw [show ((q.toNat : Nat) : Int) = q by omega]; exact hq)))
    have hw2 := h.rng q.toNat (by omega)
    rw [at_nn h hq2.1]
    exact ⟨hw, hw2.2⟩
  · obtain ⟨⟨c, hcm, rfl⟩, he⟩ := shN_mem hy
    obtain ⟨hk, ha, hb, hl, hargs, h5⟩ := hP c hcm
    have h4 := hr0.2 c hcm
    simp only [conOk, inR, Bool.and_eq_true, Bool.or_eq_true, decide_eq_true_eq, List.all_eq_true] at h4
    have hA := atr c.a ha.1 ha.2
    have hab : (¬ c.k = 5 → 0 ≤ atF wh c.a) ∧ (¬ c.k = 1 → 0 ≤ atF wh c.b) := by
      cases hls : less with
      | false =>
        refine ⟨fun h5' => ?_, fun h1' => ?_⟩
        · rw [at_nn h (h5 h5').1]; exact h.all hls _ (by omega)
        · have := hb.2.2 h1'
          rw [at_nn h hb.1]; exact h.all hls _ (by omega)
      | true =>
        have he := he hls
        unfold emptyC shX at he
        simp only at he
        by_cases k1 : c.k = 1
        · rw [if_pos k1] at he
          rw [decide_eq_false_iff_not] at he
          exact ⟨fun _ => by omega, fun h => absurd k1 h⟩
        · rw [if_neg k1] at he
          by_cases k5 : c.k = 5
          · rw [if_pos k5, if_neg k1, decide_eq_false_iff_not] at he
            exact ⟨fun h => absurd k5 h, fun _ => by omega⟩
          · rw [if_neg k5, if_neg k1] at he
            simp only [Bool.or_eq_false_iff, decide_eq_false_iff_not] at he
            exact ⟨fun _ => by omega, fun _ => by omega⟩
    unfold conOk inR shX
    simp only [Bool.and_eq_true, Bool.or_eq_true, decide_eq_true_eq, List.all_eq_true, List.length_map]
    refine ⟨⟨⟨⟨⟨⟨hk.1, hk.2⟩, ?_⟩, ?_⟩, hl⟩, h4.1.2⟩, fun z hz => ?_⟩
    · by_cases k5 : c.k = 5
      · rw [if_pos k5]; omega
      · rw [if_neg k5]; have := hab.1 k5; omega
    · by_cases k1 : c.k = 1
      · rw [if_pos k1, if_pos k1]; have := hb.2.1 k1; omega
      · rw [if_neg k1, if_neg k1]
        have h1 := hb.2.2 k1
        have h2 := atr c.b (by omega) h1
        have h3 := hab.2 k1
        omega
    · obtain ⟨q, hq, rfl⟩ := List.mem_map.1 hz
      have := hargs q hq
      have := atr q this.1 this.2
      omega
theorem sh_at {p : Nat} (hp : p < xs.length) : (xs.map (shC wh))[p]! = shC wh xs[p]! := by
  rw [getElem!_pos _ p (by simpa using hp), getElem!_pos _ p hp]
  simp
theorem map_at {l : List Int} {k : Nat} (hk : k < l.length) : (l.map (atF wh))[k]! = atF wh l[k]! := by
  rw [getElem!_pos _ k (by simpa using hk), getElem!_pos _ k hk]
  simp
/-- Nothing more is told of the smaller system. -/
theorem sh_up (hr : rightB ⟨n, xs, ys⟩ = true) (h : IsLeast ⟨(n : Int), xs, ys⟩ M) (hw : WOk n xs ys M wh cnt less) (h' : IsLeast ⟨(cnt : Int), xs.map (shC wh), shN wh less ys⟩ M') {v o : Nat} (hv : v < n) (h0 : 0 ≤ wh v) (hm : mg M' (wh v).toNat o = true) : mg M v o = true := by
  have hc := closed_con.1 h.closed
  have hP := right_conP hr
  have hX := right_cellP hr
  have dn : ∀ (a : Nat) (o : Nat), a < n → 0 ≤ wh a → mg (mkM cnt xs.length fun w o => ∃ u, u < n ∧ wh u = (w : Int) ∧ mg M u o = true) (wh a).toNat o = true → mg M a o = true := fun a o ha h0 hm => by
    obtain ⟨_, _, u, hu, e, hm⟩ := mg_mk.1 hm
    exact (hw.row a u ha hu h0 (by omega) o).2 hm
  have up : ∀ (a : Nat) (o : Nat), a < n → 0 ≤ wh a → mg M a o = true → mg (mkM cnt xs.length fun w o => ∃ u, u < n ∧ wh u = (w : Int) ∧ mg M u o = true) (wh a).toNat o = true := fun a o ha h0 hm => by
    have := hw.rng a ha
    exact mg_mk.2 ⟨by omega, (mg_lt h hm).2, a, ha, by omega, hm⟩
  have nn : ∀ (a o : Nat), a < n → mg M a o = true → 0 ≤ wh a := fun a o ha hm => Int.not_lt.1 fun hl => hw.none a ha hl o hm
  have hcl : ClosedM ⟨(cnt : Int), xs.map (shC wh), shN wh less ys⟩ (mkM cnt xs.length fun w o => ∃ u, u < n ∧ wh u = (w : Int) ∧ mg M u o = true) := closed_con.2 fun y hy => by
    obtain ⟨⟨c, hcm, rfl⟩, he⟩ := shN_mem hy
    obtain ⟨hk, ha, hb, hl, hargs, h5⟩ := hP c hcm
    obtain ⟨r1, r2, r3⟩ := hc c hcm
    refine ⟨fun k1 => ?_, fun k2 => ?_, fun k1 k2 p hp hs => ?_⟩
    · have k1 : c.k = 1 := k1
      have ha0 := (h5 (by omega)).1
      have hm := r1 k1
      have e1 : (shX wh c).a = wh c.a.toNat := at_nn hw ha0
      have e2 : (shX wh c).b = c.b := if_pos k1
      rw [e1, e2]
      exact up _ _ (by omega) (nn _ _ (by omega) hm) hm
    · have k2 : c.k = 2 := k2
      have ha0 := (h5 (by omega)).1
      have hb2 := hb.2.2 (by omega)
      have e1 : (shX wh c).a = wh c.a.toNat := at_nn hw ha0
      have e2 : (shX wh c).b = wh c.b.toNat := (if_neg (by omega : ¬ c.k = 1)).trans (at_nn hw hb.1)
      rw [e1, e2]
      intro q1 q2 o ho
      have hm := r2 k2 ha0 hb.1 o (dn _ _ (by omega) q2 ho)
      exact up _ _ (by omega) (nn _ _ (by omega) hm) hm
    · have k1 : ¬ c.k = 1 := k1
      have k2 : ¬ c.k = 2 := k2
      have hp : p < xs.length := by simpa using hp
      have hb2 := hb.2.2 k1
      have hxv := (hX _ (xs_mem hp)).1
      have e2 : (shX wh c).b = wh c.b.toNat := (if_neg k1).trans (at_nn hw hb.1)
      have hxl := hw.loo (xs[p]!).v.toNat (by omega) (loose_cell (xs_mem hp) (.inl (by omega)))
      have ex : (shC wh xs[p]!).v = wh (xs[p]!).v.toNat := at_nn hw hxv.1
      rw [sh_at hp]
      have hsrc : mg M (srcOf c) p = true := by
        unfold srcOf at hs ⊢
        by_cases k4 : c.k = 4
        · have ha0 := (h5 (by omega)).1
          rw [if_pos (show (shX wh c).k = 4 from k4), show (shX wh c).a = wh c.a.toNat from at_nn hw ha0] at hs
          rw [if_pos k4]
          obtain ⟨q1, _, u, hu, e, hm⟩ := mg_mk.1 hs
          by_cases h0 : 0 ≤ wh c.a.toNat
          · exact dn _ _ (by omega) h0 hs
          · have h3 := hw.rng c.a.toNat (by omega)
            exfalso
            cases hls : less with
            | false => exact h0 (hw.all hls _ (by omega))
            | true =>
              have he := he hls
              unfold emptyC at he
              rw [if_neg (show ¬ (shX wh c).k = 1 from k1), if_neg (show ¬ (shX wh c).k = 5 from fun e => by have : c.k = 5 := e; omega)] at he
              simp only [Bool.or_eq_false_iff, decide_eq_false_iff_not] at he
              have h6 := he.1.1
              rw [show (shX wh c).a = wh c.a.toNat from at_nn hw ha0] at h6
              omega
        · rw [if_neg (show ¬ (shX wh c).k = 4 from k4), e2] at hs
          rw [if_neg k4]
          by_cases h0 : 0 ≤ wh c.b.toNat
          · exact dn _ _ (by omega) h0 hs
          · have h3 := hw.rng c.b.toNat (by omega)
            exfalso
            cases hls : less with
            | false => exact h0 (hw.all hls _ (by omega))
            | true =>
              have he := he hls
              unfold emptyC at he
              rw [if_neg (show ¬ (shX wh c).k = 1 from k1), e2] at he
              split at he
              · rw [decide_eq_false_iff_not] at he
                omega
              · simp only [Bool.or_eq_false_iff, decide_eq_false_iff_not] at he
                omega
      obtain ⟨o3, o4, o5⟩ := r3 k1 k2 p hp hsrc
      refine ⟨fun k3 hfn => ?_, fun k4 hfn => ?_, fun k5 hfn => ⟨?_, fun k hk1 hk2 => ?_⟩⟩
      · have k3 : c.k = 3 := k3
        have ha0 := (h5 (by omega)).1
        rw [show (shX wh c).a = wh c.a.toNat from at_nn hw ha0, ex]
        intro q1 q2 o ho
        have hm := o3 k3 hfn ha0 hxv.1 o (dn _ _ (by omega) q2 ho)
        exact up _ _ (by omega) (nn _ _ (by omega) hm) hm
      · have k4 : c.k = 4 := k4
        rw [ex, e2]
        intro q1 q2 o ho
        have hm := o4 k4 hfn hxv.1 hb.1 o (dn _ _ (by omega) q2 ho)
        exact up _ _ (by omega) q1 hm
      · have k5 : c.k = 5 := k5
        rw [ex]
        intro q1 q2 o ho
        obtain ⟨ha0, ea⟩ := at_pos (wh := wh) (x := c.a) q1
        have hm := (o5 k5 hfn).1 ha0 hxv.1 o (dn _ _ (by omega) q2 ho)
        rw [show (shX wh c).a = wh c.a.toNat from ea]
        exact up _ _ (by omega) (nn _ _ (by omega) hm) hm
      · have k5 : c.k = 5 := k5
        have hk1 : k < (xs[p]!).args.length := by simpa [shC] using hk1
        have hk2 : k < c.args.length := by simpa [shX] using hk2
        rw [show (shC wh xs[p]!).args[k]! = atF wh (xs[p]!).args[k]! from map_at hk1, show (shX wh c).args[k]! = atF wh c.args[k]! from map_at hk2]
        intro q1 q2 o ho
        obtain ⟨t0, et⟩ := at_pos q1
        obtain ⟨f0, ef⟩ := at_pos q2
        have ht := (hX _ (xs_mem hp)).2.2 _ (arg_mem hk1)
        have hf := hargs _ (arg_mem hk2)
        rw [ef] at ho q2
        rw [et] at q1 ⊢
        have hm := (o5 k5 hfn).2 k hk1 hk2 t0 f0 o (dn _ _ (by omega) q2 ho)
        exact up _ _ (by omega) q1 hm
  exact dn v o hv h0 (h'.least _ hcl _ _ hm)
/-- All is told of the smaller system. -/
theorem sh_down (hr : rightB ⟨n, xs, ys⟩ = true) (h : IsLeast ⟨(n : Int), xs, ys⟩ M) (hw : WOk n xs ys M wh cnt less) (h' : IsLeast ⟨(cnt : Int), xs.map (shC wh), shN wh less ys⟩ M') {v o : Nat} (hm : mg M v o = true) : 0 ≤ wh v ∧ mg M' (wh v).toNat o = true := by
  have hc := closed_con.1 h.closed
  have hc' := closed_con.1 h'.closed
  have hP := right_conP hr
  have hX := right_cellP hr
  have nn : ∀ (a o : Nat), a < n → mg M a o = true → 0 ≤ wh a := fun a o ha hm => Int.not_lt.1 fun hl => hw.none a ha hl o hm
  have dn : ∀ (a o : Nat), mg (mkM n xs.length fun v o => 0 ≤ wh v ∧ mg M' (wh v).toNat o = true) a o = true → a < n ∧ 0 ≤ wh a ∧ mg M' (wh a).toNat o = true ∧ mg M a o = true := fun a o hm => by
    obtain ⟨h1, h2, h3, h4⟩ := mg_mk.1 hm
    exact ⟨h1, h3, h4, sh_up hr h hw h' h1 h3 h4⟩
  have mk : ∀ (a o : Nat), a < n → 0 ≤ wh a → mg M' (wh a).toNat o = true → mg (mkM n xs.length fun v o => 0 ≤ wh v ∧ mg M' (wh v).toNat o = true) a o = true := fun a o ha h0 hm => mg_mk.2 ⟨ha, (mg_lt h (sh_up hr h hw h' ha h0 hm)).2, h0, hm⟩
  have hcl : ClosedM ⟨(n : Int), xs, ys⟩ (mkM n xs.length fun v o => 0 ≤ wh v ∧ mg M' (wh v).toNat o = true) := closed_con.2 fun c hcm => by
    obtain ⟨hk, ha, hb, hl, hargs, h5⟩ := hP c hcm
    obtain ⟨r1, r2, r3⟩ := hc c hcm
    have hkept := shN_has (wh := wh) (less := less) hcm
    refine ⟨fun k1 => ?_, fun k2 => ?_, fun k1 k2 p hp hs => ?_⟩
    · have ha0 := (h5 (by omega)).1
      have hm := r1 k1
      have hwa := nn _ _ (by omega) hm
      have e1 : (shX wh c).a = wh c.a.toNat := at_nn hw ha0
      have e2 : (shX wh c).b = c.b := if_pos k1
      rcases hkept with ⟨_, he⟩ | hin
      · unfold emptyC at he
        rw [if_pos (show (shX wh c).k = 1 from k1), e1, decide_eq_true_eq] at he
        omega
      · have := (hc' _ hin).1 k1
        rw [e1, e2] at this
        exact mk _ _ (by omega) hwa this
    · have ha0 := (h5 (by omega)).1
      have hb2 := hb.2.2 (by omega)
      have e1 : (shX wh c).a = wh c.a.toNat := at_nn hw ha0
      have e2 : (shX wh c).b = wh c.b.toNat := (if_neg (by omega : ¬ c.k = 1)).trans (at_nn hw hb.1)
      intro q1 q2 o ho
      obtain ⟨h1, h2, h3, h4⟩ := dn _ _ ho
      have hm := r2 k2 ha0 hb.1 o h4
      have hwa := nn _ _ (by omega) hm
      rcases hkept with ⟨_, he⟩ | hin
      · unfold emptyC at he
        rw [if_neg (show ¬ (shX wh c).k = 1 from by show ¬ c.k = 1; omega), if_neg (show ¬ (shX wh c).k = 5 from by show ¬ c.k = 5; omega), e1, e2] at he
        simp only [Bool.or_eq_true, Bool.and_eq_true, decide_eq_true_eq] at he
        have e3 : wh c.a.toNat = wh c.b.toNat := by omega
        exact mk _ _ (by omega) hwa (by rw [e3]; exact h3)
      · have := (hc' _ hin).2.1 k2
        rw [e1, e2] at this
        exact mk _ _ (by omega) hwa (this hwa h2 o h3)
    · have hb2 := hb.2.2 k1
      have hxv := (hX _ (xs_mem hp)).1
      have hxl := hw.loo (xs[p]!).v.toNat (by omega) (loose_cell (xs_mem hp) (.inl (by omega)))
      have ex : (shC wh xs[p]!).v = wh (xs[p]!).v.toNat := at_nn hw hxv.1
      have e2 : (shX wh c).b = wh c.b.toNat := (if_neg k1).trans (at_nn hw hb.1)
      obtain ⟨s1, s2, s3, s4⟩ := dn _ _ hs
      obtain ⟨o3, o4, o5⟩ := r3 k1 k2 p hp s4
      have hobj : shX wh c ∈ shN wh less ys → objP (shX wh c) (shC wh xs[p]!) M' := fun hin => by
        have hp' : p < (xs.map (shC wh)).length := by simpa using hp
        have := (hc' _ hin).2.2 k1 k2 p hp' (by
          unfold srcOf at s2 s3 ⊢
          by_cases k4 : c.k = 4
          · have ha0 := (h5 (by omega)).1
            rw [if_pos k4] at s2 s3
            rw [if_pos (show (shX wh c).k = 4 from k4), show (shX wh c).a = wh c.a.toNat from at_nn hw ha0]
            exact s3
          · rw [if_neg k4] at s2 s3
            rw [if_neg (show ¬ (shX wh c).k = 4 from k4), e2]
            exact s3)
        rwa [sh_at hp] at this
      refine ⟨fun k3 hfn => ?_, fun k4 hfn => ?_, fun k5 hfn => ⟨?_, fun k hk1 hk2 => ?_⟩⟩
      · have ha0 := (h5 (by omega)).1
        have e1 : (shX wh c).a = wh c.a.toNat := at_nn hw ha0
        intro q1 q2 o ho
        obtain ⟨h1, h2, h3, h4⟩ := dn _ _ ho
        have hm := o3 k3 hfn ha0 hxv.1 o h4
        have hwa := nn _ _ (by omega) hm
        rcases hkept with ⟨_, he⟩ | hin
        · unfold emptyC at he
          rw [if_neg (show ¬ (shX wh c).k = 1 from k1), if_neg (show ¬ (shX wh c).k = 5 from by show ¬ c.k = 5; omega), e1, e2] at he
          simp only [Bool.or_eq_true, Bool.and_eq_true, decide_eq_true_eq] at he
          have hsb : srcOf c = c.b.toNat := by unfold srcOf; rw [if_neg (by omega)]
          rw [hsb] at s2
          rcases he with (he | he) | ⟨he, _⟩
          · omega
          · omega
          · exact absurd (show c.k = 2 from he) k2
        · have := (hobj hin).1 k3 hfn
          rw [e1, ex] at this
          exact mk _ _ (by omega) hwa (this hwa h2 o h3)
      · have ha0 := (h5 (by omega)).1
        have e1 : (shX wh c).a = wh c.a.toNat := at_nn hw ha0
        intro q1 q2 o ho
        obtain ⟨h1, h2, h3, h4⟩ := dn _ _ ho
        rcases hkept with ⟨_, he⟩ | hin
        · unfold emptyC at he
          rw [if_neg (show ¬ (shX wh c).k = 1 from k1), if_neg (show ¬ (shX wh c).k = 5 from by show ¬ c.k = 5; omega), e1, e2] at he
          simp only [Bool.or_eq_true, Bool.and_eq_true, decide_eq_true_eq] at he
          have hsb : srcOf c = c.a.toNat := by unfold srcOf; rw [if_pos k4]
          rw [hsb] at s2
          rcases he with (he | he) | ⟨he, _⟩
          · omega
          · omega
          · exact absurd (show c.k = 2 from he) k2
        · have := (hobj hin).2.1 k4 hfn
          rw [e2, ex] at this
          exact mk _ _ (by omega) hxl (this hxl h2 o h3)
      · have hin : shX wh c ∈ shN wh less ys := by
          rcases hkept with ⟨_, he⟩ | hin
          · exfalso
            unfold emptyC at he
            rw [if_neg (show ¬ (shX wh c).k = 1 from k1), if_pos (show (shX wh c).k = 5 from k5), e2, decide_eq_true_eq] at he
            have hsb : srcOf c = c.b.toNat := by unfold srcOf; rw [if_neg (by omega)]
            rw [hsb] at s2
            omega
          · exact hin
        intro q1 q2 o ho
        obtain ⟨h1, h2, h3, h4⟩ := dn _ _ ho
        have hm := (o5 k5 hfn).1 q1 hxv.1 o h4
        have hwa := nn _ _ (by omega) hm
        have := ((hobj hin).2.2 k5 hfn).1
        rw [show (shX wh c).a = wh c.a.toNat from at_nn hw q1, ex] at this
        exact mk _ _ (by omega) hwa (this hwa h2 o h3)
      · have hin : shX wh c ∈ shN wh less ys := by
          rcases hkept with ⟨_, he⟩ | hin
          · exfalso
            unfold emptyC at he
            rw [if_neg (show ¬ (shX wh c).k = 1 from k1), if_pos (show (shX wh c).k = 5 from k5), e2, decide_eq_true_eq] at he
            have hsb : srcOf c = c.b.toNat := by unfold srcOf; rw [if_neg (by omega)]
            rw [hsb] at s2
            omega
          · exact hin
        intro q1 q2 o ho
        obtain ⟨h1, h2, h3, h4⟩ := dn _ _ ho
        have ht := (hX _ (xs_mem hp)).2.2 _ (arg_mem hk1)
        have hf := hargs _ (arg_mem hk2)
        have hwt := hw.loo (xs[p]!).args[k]!.toNat (by omega) (loose_cell (xs_mem hp) (.inr (by rw [show (((xs[p]!).args[k]!.toNat : Nat) : Int) = (xs[p]!).args[k]! by omega]; exact arg_mem hk1)))
        have := ((hobj hin).2.2 k5 hfn).2 k (by simpa [shC] using hk1) (by simpa [shX] using hk2)
        rw [show (shC wh xs[p]!).args[k]! = atF wh (xs[p]!).args[k]! from map_at hk1, show (shX wh c).args[k]! = atF wh c.args[k]! from map_at hk2, at_nn hw ht.1, at_nn hw q2] at this
        exact mk _ _ (by omega) hwt (this hwt h2 o h3)
  exact (mg_mk.1 (h.least _ hcl v o hm)).2.2
theorem sh_least (hr : rightB ⟨n, xs, ys⟩ = true) (h : IsLeast ⟨(n : Int), xs, ys⟩ M) (hw : WOk n xs ys M wh cnt less) (h' : IsLeast ⟨(cnt : Int), xs.map (shC wh), shN wh less ys⟩ M') {v : Nat} (hv : v < n) (o : Nat) : mg M v o = true ↔ 0 ≤ wh v ∧ mg M' (wh v).toNat o = true :=
  ⟨sh_down hr h hw h', fun ⟨h0, hm⟩ => sh_up hr h hw h' hv h0 hm⟩
/-- What labels bring. -/
theorem wok_of {lab : Nat → Int} {mode : Int} (hr : rightB ⟨n, xs, ys⟩ = true) (h : IsLeast ⟨(n : Int), xs, ys⟩ M) (hcan : Canon n wh (fun v u => klF lab v = klF lab u) (fun v => lab v < 0)) (hL : LabM n xs ys mode lab) : WOk n xs ys M wh (nxt wh n) (decide (¬ mode = 0)) := by
  have hG : GOk n (gInto n xs ys) (gBases n xs ys) (gLoose n xs ys) := gok hr
  have hni := hG.ni
  -- below none just if there are no sources
  have hz : ∀ v, v < n → (lab v < 0 → SrcZ n xs.length ⟨n, xs, ys⟩ v) := fun v hv hneg => by
    by_cases m1 : mode = 1
    · obtain ⟨kn, of, hK, hlab⟩ := hL.ovs m1
      have hge := ((labN_ok hG hK kn.length (Nat.le_refl _)).lab _ (hK.at_ v (by omega)).1).1
      have hge : -1 ≤ gl n xs ys kn of v := hge
      have e := hlab v hv
      have := (lv_none hG hK xs.length (v := v) (by omega)).1 (show gl n xs ys kn of v = -1 by omega)
      exact fun j hj => this j ((gs_src hr hv).2 hj)
    · by_cases m2 : mode = 2
      · have hc2 := hL.hu m2
        exact (hc2.none v hv).1 (by have := (hc2.le v hv).1; omega)
      · have := hL.plain m1 m2 v hv
        omega
  have hs : ∀ v u, v < n → u < n → ¬ lab v < 0 → ¬ lab u < 0 → lab v = lab u → SrcE n xs.length ⟨n, xs, ys⟩ v u := fun v u hv hu h1 h2 e => by
    by_cases m1 : mode = 1
    · obtain ⟨kn, of, hK, hlab⟩ := hL.ovs m1
      have := lv_same hG hK xs.length (v := v) (u := u) (by omega) (by omega) (by rw [show lv n (gInto n xs ys) (gBases n xs ys) (gLoose n xs ys) kn of v = lab v from (hlab v hv).symm, show lv n (gInto n xs ys) (gBases n xs ys) (gLoose n xs ys) kn of u = lab u from (hlab u hu).symm, e])
      exact fun j => by rw [← gs_src hr hv, ← gs_src hr hu]; exact this j
    · by_cases m2 : mode = 2
      · exact ((hL.hu m2).same v u hv hu).1 e
      · have e1 := hL.plain m1 m2 v hv
        have e2 := hL.plain m1 m2 u hu
        have : v = u := by omega
        subst this
        exact fun j => Iff.rfl
  have hle : ∀ v, nxt wh v ≤ v := nxt_leV wh
  refine ⟨fun v hv => ⟨(hcan.le v hv).1, canon_lt hcan hv⟩, hle n, fun v u hv hu h0 e o => ?_, fun v hv hneg o => ?_, fun v hv hloo => ?_, fun hless v hv => ?_⟩
  · have hk := (hcan.same v u hv hu).1 e
    have nv : ¬ lab v < 0 := fun hl => by have := (hcan.none v hv).2 hl; omega
    have nu : ¬ lab u < 0 := fun hl => by have := (hcan.none u hu).2 hl; omega
    have hk : klF lab v = klF lab u := hk
    unfold klF at hk
    rw [if_neg nv, if_neg nu] at hk
    exact row_same hr h hv hu (hs v u hv hu nv nu hk) o
  · have hl := (hcan.none v hv).1 (by have := (hcan.le v hv).1; omega)
    exact row_none hr h (hz v hv hl) o
  · apply Int.not_lt.1
    intro hneg
    have hl := (hcan.none v hv).1 (by have := (hcan.le v hv).1; omega)
    exact hz v hv hl _ (.seed (.inr ⟨rfl, hloo⟩))
  · have m0 : mode = 0 := by simpa using hless
    have e := hL.plain (by omega) (by omega) v hv
    apply Int.not_lt.1
    intro hneg
    have hl := (hcan.none v hv).1 (by have := (hcan.le v hv).1; omega)
    omega
end
end Go.Proofs.Ytjggjhgbobmkhaa

/- The walk of GraphOf. -/
namespace Go.Proofs.Ytjggjhgbobmkhaa
open Go.RowKit
set_option linter.unusedVariables false
set_option linter.unusedSimpArgs false
set_option maxRecDepth 100000
end Go.Proofs.Ytjggjhgbobmkhaa

/- The walk of GraphStores. -/
namespace Go.Proofs.Ytjggjhgbobmkhaa
open Go.RowKit
set_option linter.unusedVariables false
set_option linter.unusedSimpArgs false
set_option maxRecDepth 100000
end Go.Proofs.Ytjggjhgbobmkhaa

/- The last steps of a law's row, once for all laws: arguments opened, what is read again. -/
namespace Go.Proofs.Ytjggjhgbobmkhaa
open Go.ChangeShapes Go.WideShapes Go.ChangeAt Go.RowKit
set_option linter.unusedVariables false
set_option linter.unusedSimpArgs false
set_option maxRecDepth 100000
section
variable {H : Type} {enc : TypeId × Value → H} {W : World} {base : Nat}
theorem open_D {α : Type} {D : Dec α} {t : TypeId} {v : Value} {d : DataW H} {p : List MemPlace} (h : DataW.Trod enc Try.prog W 0 (fun _ => true) true t v d p) (ho : Opens enc Try.prog W 0 (fun _ => true) true t D) : ∃ a, D W v.cells.toList a := trod_of_Trod h ho
theorem open_Draft {v : Value} {d : DataW H} {p : List MemPlace} (hv : Value.okWide Try.prog W .any base 24 v) (h : DataW.Trod enc Try.prog W 0 (fun _ => true) true 24 v d p) :
    ∃ (s : Draft) (A : Option Addr) (c : Nat), v = .agg #[.int .u8 s.vars, .int .u8 s.cells, .slice A s.acts.length c] ∧ RActs W A s.acts ∧ (0 ≤ s.vars ∧ s.vars ≤ 255) ∧ 0 ≤ s.cells ∧ s.cells ≤ 255 := by
  obtain ⟨cs, rfl, _⟩ := okWide_struct Try.underlying24 hv
  obtain ⟨s, A, c, hc, h1, h2⟩ := open_D h opens_Draft
  refine ⟨s, A, c, ?_, h1, h2⟩
  simp only [Value.cells] at hc
  rw [← hc]
end
end Go.Proofs.Ytjggjhgbobmkhaa
