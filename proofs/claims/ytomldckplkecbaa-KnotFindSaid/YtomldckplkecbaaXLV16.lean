/- What gets something of itself, or twice of another one, has the same knots. -/
import Derived.Test.YtomldckplkecbaaXLT16
import Derived.Test.YtomldckplkecbaaXLK16
namespace Go.Proofs.Ytomldckplkecbaa
open Go.RowKit
set_option linter.unusedVariables false
set_option linter.unusedSimpArgs false
set_option maxRecDepth 100000
theorem gints_of {base m : Nat} {w : World} {v : Value} {flat : List Value} {xs : List Int} (h : w.ownsRow base 3 1 v m flat) (hm : m = xs.length) (he : Elems 1 (dI .i64) w flat xs) : GInts base w v xs := by
  subst hm
  exact ⟨⟨flat, h, fun _ _ => he⟩, by simp, by simp⟩
theorem elems_app {α : Type} [Inhabited α] {sz : Nat} {d : Dec α} {w : World} {f1 f2 : List Value} {xs ys : List α} (h : Elems sz d w f1 xs) (h2 : Elems sz d w f2 ys) : Elems sz d w (f1 ++ f2) (xs ++ ys) := by
  refine ⟨by simp [h.1, h2.1, Nat.add_mul], fun i hi => ?_⟩
  rw [List.length_append] at hi
  rcases Nat.lt_or_ge i xs.length with hl | hl
  · have h1 : i * sz + sz ≤ f1.length := by rw [h.1, ← Nat.succ_mul]; exact Nat.mul_le_mul_right _ hl
    rw [List.drop_append_of_le_length (by omega), List.take_append_of_le_length (by rw [List.length_drop]; omega), getElem!_pos _ i (by simp; omega), List.getElem_append_left hl]
    have := h.2 i hl
    rwa [getElem!_pos xs i hl] at this
  · obtain ⟨j, rfl⟩ : ∃ j, i = xs.length + j := ⟨i - xs.length, by omega⟩
    rw [Nat.add_mul, ← h.1, ← List.drop_drop, List.drop_left, getElem!_pos _ _ (by simp; omega), List.getElem_append_right (by omega)]
    have := h2.2 j (by omega)
    rw [getElem!_pos ys j (by omega)] at this
    simpa using this
theorem elems_two {w : World} {a b : Int} (ha : -9223372036854775808 ≤ a ∧ a ≤ 9223372036854775807) (hb : -9223372036854775808 ≤ b ∧ b ≤ 9223372036854775807) : Elems 1 (dI .i64) w [.int .i64 a, .int .i64 b] [a, b] :=
  elems_app (f1 := [.int .i64 a]) (xs := [a]) (Elems.one (d := dI .i64) rfl (ints_one (w := w) (flat := []) (xs := []) ha)) (Elems.one (d := dI .i64) rfl (ints_one (w := w) (flat := []) (xs := []) hb))
/-- Two rows of rows that grow side by side. -/
structure D2 (base : Nat) (w : World) (vg vh : Value) (Mg Mh : List (List Int)) (bg bh : List Nat) : Prop where
  p : GRow 1 dInts 24 base w vg Mg bg
  q : GRow 1 dInts 24 base w vh Mh bh
  n : ∀ b, vg.ownBlock = some b → vh.ownBlock ≠ some b
  a : ∀ b ∈ bh, some b ≠ vg.ownBlock
  b : ∀ b ∈ bg, some b ≠ vh.ownBlock
section
variable {base b1 n c : Nat} {w w1 : World} {vg vh v' : Value} {Mg Mh : List (List Int)} {bg bh : List Nat} {A : Option Addr} {x : List Int} {xs flat : List Value}
theorem D2.below (h : D2 base w vg vh Mg Mh bg bh) (hb : Below w.heap.size w w1) : D2 base w1 vg vh Mg Mh bg bh := ⟨h.p.below hb, h.q.below hb, h.n, h.a, h.b⟩
theorem D2.swap (h : D2 base w vg vh Mg Mh bg bh) : D2 base w vh vg Mh Mg bh bg := ⟨h.q, h.p, fun b e e2 => h.n b e2 e, h.b, h.a⟩
theorem D2.snoc (h : D2 base w vg vh Mg Mh bg bh) (hflat : ∀ w', (∀ b ∈ bg, w'.heap[b]? = w.heap[b]?) → Elems 1 dInts w' flat Mg)
    (hr : w.ownsRow b1 3 1 (.slice A n c) n xs) (he : Elems 1 (dI .i64) w xs x) (hn : n = x.length) (hb : base ≤ b1) (hne : ∀ b, (Value.slice A n c).ownBlock = some b → some b ≠ vg.ownBlock ∧ some b ≠ vh.ownBlock)
    (hown : w1.ownsRow base 24 1 v' (Mg.length + 1) (flat ++ [.slice A n c])) (hg : w.grownBy w1 vg.ownBlock) (hob : v'.ownBlock = vg.ownBlock ∨ v'.ownBlock = some w.heap.size) :
    D2 base w1 v' vh (Mg ++ [x]) Mh (bg ++ (Value.slice A n c).ownBlock.toList) bh := by
  refine ⟨h.p.snocR hflat hr he hn hb (fun b hb => (hne b hb).1) hown hg hob, h.q.stays _ hg h.a ?_, fun b e => ?_, fun b hb e => ?_, fun b hb => ?_⟩
  · cases ho : vh.ownBlock with
    | none => exact .inl rfl
    | some b => exact .inr fun e => h.n b e.symm ho
  · rcases hob with q | q
    · exact h.n b (q.symm.trans e)
    · rw [q] at e
      injection e with e
      intro e2
      have := (h.q.olt b e2).2
      omega
  · rcases hob with q | q
    · exact h.a b hb (e.trans q)
    · rw [q] at e
      injection e with e
      have := (h.q.lt b hb).2
      omega
  · rcases List.mem_append.1 hb with hb | hb
    · exact h.b b hb
    · exact (hne b (by simpa using hb)).2
end
theorem gF_snoc (k : Nat) (f : Nat → List Int) (x : List Int) : gF k f ++ [x] = gF (k + 1) (setF f k x) := by
  unfold gF
  rw [List.range_succ, List.map_append]
  congr 1
  · apply List.map_congr_left
    intro j hj
    have := List.mem_range.1 hj
    rw [setF_ne _ _ (by omega : j ≠ k)]
  · simp [setF_at]
def selfF (n at_ : Nat) (f : Nat → List Int) : Nat → List Int := fun v => (v : Int) :: f v ++ f v ++ [-1, (n : Int) + at_]
theorem selfF_set (n at_ k : Nat) (f : Nat → List Int) (x : List Int) : setF (selfF n at_ f) k ((k : Int) :: x ++ x ++ [-1, (n : Int) + at_]) = selfF n at_ (setF f k x) := by
  funext j
  unfold setF selfF
  by_cases e : j = k
  · subst e; simp
  · simp [e]
theorem self_rg {n at_ : Nat} {f : Nat → List Int} {a b : Nat} : Rg (gF n f) a b ↔ Rg (gF n (selfF n at_ f)) a b := by
  have h1 : ∀ x y, Ed (gF n f) x y → Ed (gF n (selfF n at_ f)) x y := fun x y e => by
    rw [ed_gF] at e ⊢
    exact ⟨e.1, e.2.1, by unfold selfF; simp [e.2.2]⟩
  have h2 : ∀ x y, Ed (gF n (selfF n at_ f)) x y → x = y ∨ Ed (gF n f) x y := fun x y e => by
    rw [ed_gF] at e
    obtain ⟨hx, hy, hm⟩ := e
    unfold selfF at hm
    simp only [List.mem_append, List.mem_cons, List.not_mem_nil, or_false] at hm
    by_cases hxy : x = y
    · exact .inl hxy
    · refine .inr (ed_gF.2 ⟨hx, hy, ?_⟩)
      rcases hm with ((h | h) | h) | h | h
      · exact absurd h (by omega)
      · exact h
      · exact h
      · omega
      · omega
  constructor
  · intro h
    induction h with
    | refl => exact .refl _
    | step e _ ih => exact .step (h1 _ _ e) ih
  · intro h
    induction h with
    | refl => exact .refl _
    | step e _ ih =>
      rcases h2 _ _ e with rfl | e2
      · exact ih
      · exact .step e2 ih
set_option maxHeartbeats 16000000 in
theorem lawKnotSelf (M : List (List Int)) (A : Option Addr) (c : Nat) (at' : Int) (w : World) (hM : RRows w A M) (hc : M.length ≤ c) (hat : 0 ≤ at' ∧ at' ≤ 255) :
    Calls Try.prog 7 #[.slice A M.length c, .int .u8 at'] w fun e w' => e = .returned (.bool true) ∧ Below w.heap.size w w' := by
  obtain ⟨at_, rfl⟩ := Int.eq_ofNat_of_zero_le hat.1
  refine enterR (args := [.slice A M.length c, .int .u8 (at_ : Int)]) tabOk Try.func7 rfl Try.ntmps7 rfl ?_; conv => whnf
  refine wl_C fn12 (awake16 w) rfl rfl rfl rfl rfl rfl rfl ?_
  rintro _ w1 ⟨rfl, hB1⟩
  refine ⟨_, rfl, run_l tabOk ?_⟩
  conv => whnf
  by_cases hbig : 20 < M.length
  · (repeat' (first | (refine wl_add rfl rfl rfl rfl rfl rfl (by omega) (by omega) (run_l tabOk ?_); conv => whnf) | (refine wl_sub rfl rfl rfl rfl rfl rfl (by omega) (by omega) (run_l tabOk ?_); conv => whnf) | (refine wl_cvA tabOk rfl rfl rfl (by simp only [inK]; omega) rfl rfl rfl (run_l tabOk ?_); conv => whnf) | (refine wl_cvB tabOk rfl rfl rfl rfl rfl rfl (run_l tabOk ?_); conv => whnf) | (refine wl_rem rfl rfl rfl rfl rfl rfl (by omega) (by omega) (fun r hr hr0 hr1 hr2 => run_l tabOk ?_); conv => whnf) | (refine wl_quo rfl rfl rfl rfl rfl rfl (by omega) (by omega) (by simp only [inK]; omega) (run_l tabOk ?_); conv => whnf) | (refine wl_mul rfl rfl rfl rfl rfl rfl (by omega) (by omega) (run_l tabOk ?_); conv => whnf) | (refine gs_dt (by first | assumption | omega) ?_; conv => whnf) | (refine gs_df (by first | assumption | omega) ?_; conv => whnf) | (refine gs_t (by assumption) ?_; conv => whnf) | (refine gs_f (by assumption) ?_; conv => whnf) | (refine gs_d (fun hg => ?_) (fun hg => ?_) <;> conv => whnf) | (refine gs_n (fun hg => ?_) (fun hg => ?_) <;> conv => whnf) | (refine gs_nb (fun hg => ?_) (fun hg => ?_) <;> conv => whnf) | (refine gs_b (fun hg => ?_) (fun hg => ?_) <;> conv => whnf) | refine fin1 rfl rfl ?_))
    refine wl_C fn12 (awake16 w1) rfl rfl rfl rfl rfl rfl rfl ?_
    rintro _ w2 ⟨rfl, hB2⟩
    refine ⟨_, rfl, run_l tabOk ?_⟩
    conv => whnf
    (repeat' (first | (refine wl_add rfl rfl rfl rfl rfl rfl (by omega) (by omega) (run_l tabOk ?_); conv => whnf) | (refine wl_sub rfl rfl rfl rfl rfl rfl (by omega) (by omega) (run_l tabOk ?_); conv => whnf) | (refine wl_cvA tabOk rfl rfl rfl (by simp only [inK]; omega) rfl rfl rfl (run_l tabOk ?_); conv => whnf) | (refine wl_cvB tabOk rfl rfl rfl rfl rfl rfl (run_l tabOk ?_); conv => whnf) | (refine wl_rem rfl rfl rfl rfl rfl rfl (by omega) (by omega) (fun r hr hr0 hr1 hr2 => run_l tabOk ?_); conv => whnf) | (refine wl_quo rfl rfl rfl rfl rfl rfl (by omega) (by omega) (by simp only [inK]; omega) (run_l tabOk ?_); conv => whnf) | (refine wl_mul rfl rfl rfl rfl rfl rfl (by omega) (by omega) (run_l tabOk ?_); conv => whnf) | (refine gs_dt (by first | assumption | omega) ?_; conv => whnf) | (refine gs_df (by first | assumption | omega) ?_; conv => whnf) | (refine gs_t (by assumption) ?_; conv => whnf) | (refine gs_f (by assumption) ?_; conv => whnf) | (refine gs_d (fun hg => ?_) (fun hg => ?_) <;> conv => whnf) | (refine gs_n (fun hg => ?_) (fun hg => ?_) <;> conv => whnf) | (refine gs_nb (fun hg => ?_) (fun hg => ?_) <;> conv => whnf) | (refine gs_b (fun hg => ?_) (fun hg => ?_) <;> conv => whnf) | refine fin1 rfl rfl ?_))
    exact ⟨rfl, bup hB1 hB2⟩
  obtain ⟨n, hn⟩ : ∃ n, n = M.length := ⟨_, rfl⟩
  rw [← hn] at hc hbig ⊢
  (repeat' (first | (refine wl_add rfl rfl rfl rfl rfl rfl (by omega) (by omega) (run_l tabOk ?_); conv => whnf) | (refine wl_sub rfl rfl rfl rfl rfl rfl (by omega) (by omega) (run_l tabOk ?_); conv => whnf) | (refine wl_cvA tabOk rfl rfl rfl (by simp only [inK]; omega) rfl rfl rfl (run_l tabOk ?_); conv => whnf) | (refine wl_cvB tabOk rfl rfl rfl rfl rfl rfl (run_l tabOk ?_); conv => whnf) | (refine wl_rem rfl rfl rfl rfl rfl rfl (by omega) (by omega) (fun r hr hr0 hr1 hr2 => run_l tabOk ?_); conv => whnf) | (refine wl_quo rfl rfl rfl rfl rfl rfl (by omega) (by omega) (by simp only [inK]; omega) (run_l tabOk ?_); conv => whnf) | (refine wl_mul rfl rfl rfl rfl rfl rfl (by omega) (by omega) (run_l tabOk ?_); conv => whnf) | (refine gs_dt (by first | assumption | omega) ?_; conv => whnf) | (refine gs_df (by first | assumption | omega) ?_; conv => whnf) | (refine gs_t (by assumption) ?_; conv => whnf) | (refine gs_f (by assumption) ?_; conv => whnf) | (refine gs_d (fun hg => ?_) (fun hg => ?_) <;> conv => whnf) | (refine gs_n (fun hg => ?_) (fun hg => ?_) <;> conv => whnf) | (refine gs_nb (fun hg => ?_) (fun hg => ?_) <;> conv => whnf) | (refine gs_b (fun hg => ?_) (fun hg => ?_) <;> conv => whnf) | refine fin1 rfl rfl ?_))
  refine lp_loop tabOk (X := Nat × (Option Addr × Nat) × (Option Addr × Nat)) (fun x => [(0, .slice A n c), (1, .int .u8 (at_ : Int)), (5, .int .i64 (n : Int)), (6, .slice x.2.1.1 x.1 x.2.1.2), (7, .slice x.2.2.1 x.1 x.2.2.2), (8, .int .i64 (x.1 : Int))])
    (fun x wr => x.1 ≤ n ∧ Below w.heap.size w wr ∧ ∃ f bg bh, D2 w.heap.size wr (.slice x.2.1.1 x.1 x.2.1.2) (.slice x.2.2.1 x.1 x.2.2.2) (gF x.1 f) (gF x.1 (selfF n at_ f)) bg bh) (fun x => n - x.1) (0, (none, 0), (none, 0)) ⟨rfl, rfl, rfl, rfl, rfl, rfl, trivial⟩ ⟨by omega, hB1, fun _ => [], [], [], ⟨GRow.nil .., GRow.nil .., fun b e => by (cases e), by simp, by simp⟩⟩ ?_
  rintro ⟨v, ⟨Ag, cg⟩, ⟨Ah, ch⟩⟩ G wr ⟨hv, hB, f, bg, bh, hD⟩
  simp only at hv hB hD
  conv => whnf
  by_cases hlt : v < n
  · (repeat' (first | (refine wl_add rfl rfl rfl rfl rfl rfl (by omega) (by omega) (run_l tabOk ?_); conv => whnf) | (refine wl_sub rfl rfl rfl rfl rfl rfl (by omega) (by omega) (run_l tabOk ?_); conv => whnf) | (refine wl_cvA tabOk rfl rfl rfl (by simp only [inK]; omega) rfl rfl rfl (run_l tabOk ?_); conv => whnf) | (refine wl_cvB tabOk rfl rfl rfl rfl rfl rfl (run_l tabOk ?_); conv => whnf) | (refine wl_rem rfl rfl rfl rfl rfl rfl (by omega) (by omega) (fun r hr hr0 hr1 hr2 => run_l tabOk ?_); conv => whnf) | (refine wl_quo rfl rfl rfl rfl rfl rfl (by omega) (by omega) (by simp only [inK]; omega) (run_l tabOk ?_); conv => whnf) | (refine wl_mul rfl rfl rfl rfl rfl rfl (by omega) (by omega) (run_l tabOk ?_); conv => whnf) | (refine gs_dt (by first | assumption | omega) ?_; conv => whnf) | (refine gs_df (by first | assumption | omega) ?_; conv => whnf) | (refine gs_t (by assumption) ?_; conv => whnf) | (refine gs_f (by assumption) ?_; conv => whnf) | (refine gs_d (fun hg => ?_) (fun hg => ?_) <;> conv => whnf) | (refine gs_n (fun hg => ?_) (fun hg => ?_) <;> conv => whnf) | (refine gs_nb (fun hg => ?_) (fun hg => ?_) <;> conv => whnf) | (refine gs_b (fun hg => ?_) (fun hg => ?_) <;> conv => whnf) | refine fin1 rfl rfl ?_))
    refine lp_loop tabOk (X := Nat × (Option Addr × Nat) × List Int) (fun x => [(0, .slice A n c), (1, .int .u8 (at_ : Int)), (5, .int .i64 (n : Int)), (6, .slice Ag v cg), (7, .slice Ah v ch), (8, .int .i64 (v : Int)), (9, .slice x.2.1.1 x.1 x.2.1.2), (10, .int .i64 (x.1 : Int))])
      (fun x wk => x.1 ≤ 6 ∧ Below wr.heap.size wr wk ∧ x.2.2.length = x.1 ∧ GInts wr.heap.size wk (.slice x.2.1.1 x.1 x.2.1.2) x.2.2) (fun x => 6 - x.1) (0, (none, 0), []) ⟨rfl, rfl, rfl, rfl, rfl, rfl, rfl, rfl, trivial⟩ ⟨by omega, Below.refl _ _, rfl, GRow.nil ..⟩ ?_
    rintro ⟨k, ⟨Al, cl⟩, L⟩ G3 wk ⟨hk, hBk, hL, hI⟩
    simp only at hk hBk hL hI
    conv => whnf
    have hBw := bup hB hBk
    obtain ⟨x, ad, B, cc, ⟨hx⟩, rfl, hrow, hxc, ⟨hRI⟩⟩ := rowsE (hM.up stays_Ints hBw) v (by omega)
    by_cases hk6 : k < x.length ∧ k < 6
    · obtain ⟨hkx, hk6⟩ := hk6
      obtain ⟨y, ad2, ⟨hy⟩, rfl, hyc, _, _⟩ := intsE hRI k hkx
      (repeat' (first | (refine wl_L tabOk rfl rfl rfl rfl rfl rfl hrow (run_l tabOk ?_); conv => whnf) | (refine wl_L tabOk rfl rfl rfl rfl rfl rfl hyc (run_l tabOk ?_); conv => whnf) | (refine wl_Xn tabOk 24 1 rfl rfl rfl rfl rfl rfl rfl (by omega) (run_l tabOk ?_); conv => whnf) | (refine wl_Xn tabOk 3 1 rfl rfl rfl rfl rfl rfl rfl (by omega) (run_l tabOk ?_); conv => whnf) | (refine wl_rem rfl rfl rfl rfl rfl rfl (wrapu16 _) (by omega) (fun r hr hr0 hr1 hr2 => ?_); obtain ⟨q, rfl⟩ := Int.eq_ofNat_of_zero_le hr0; refine run_l tabOk ?_; (conv => whnf)) | (refine wl_add rfl rfl rfl rfl rfl rfl (by omega) (by omega) (run_l tabOk ?_); conv => whnf) | (refine wl_sub rfl rfl rfl rfl rfl rfl (by omega) (by omega) (run_l tabOk ?_); conv => whnf) | (refine wl_cvA tabOk rfl rfl rfl (by simp only [inK]; omega) rfl rfl rfl (run_l tabOk ?_); conv => whnf) | (refine wl_cvB tabOk rfl rfl rfl rfl rfl rfl (run_l tabOk ?_); conv => whnf) | (refine wl_rem rfl rfl rfl rfl rfl rfl (by omega) (by omega) (fun r hr hr0 hr1 hr2 => run_l tabOk ?_); conv => whnf) | (refine wl_quo rfl rfl rfl rfl rfl rfl (by omega) (by omega) (by simp only [inK]; omega) (run_l tabOk ?_); conv => whnf) | (refine wl_mul rfl rfl rfl rfl rfl rfl (by omega) (by omega) (run_l tabOk ?_); conv => whnf) | (refine gs_dt (by first | assumption | omega) ?_; conv => whnf) | (refine gs_df (by first | assumption | omega) ?_; conv => whnf) | (refine gs_t (by assumption) ?_; conv => whnf) | (refine gs_f (by assumption) ?_; conv => whnf) | (refine gs_d (fun hg => ?_) (fun hg => ?_) <;> conv => whnf) | (refine gs_n (fun hg => ?_) (fun hg => ?_) <;> conv => whnf) | (refine gs_nb (fun hg => ?_) (fun hg => ?_) <;> conv => whnf) | (refine gs_b (fun hg => ?_) (fun hg => ?_) <;> conv => whnf) | refine fin1 rfl rfl ?_))
      refine wl_bs tabOk 3 1 rfl rfl rfl rfl rfl rfl rfl rfl rfl rfl ?_
      intro g8 w8 hn8
      refine run_l tabOk ?_
      conv => whnf
      have hI8 := hI.below hn8.below
      obtain ⟨⟨flat, hown, hel⟩, _, _⟩ := id hI8
      rw [hL] at hown
      refine wl_ap tabOk 3 1 8 hown hn8.blk rfl rfl rfl rfl rfl rfl rfl rfl rfl rfl rfl (by simp) (by simp [Value.oneCell']) (by omega) (by omega) (by have := hBk.size; have := hn8.size; omega) ?_
      intro E ec w9 hown9 hg9 hob9
      refine run_l tabOk ?_
      conv => whnf
      (repeat' (first | (refine wl_add rfl rfl rfl rfl rfl rfl (by omega) (by omega) (run_l tabOk ?_); conv => whnf) | (refine wl_sub rfl rfl rfl rfl rfl rfl (by omega) (by omega) (run_l tabOk ?_); conv => whnf) | (refine wl_cvA tabOk rfl rfl rfl (by simp only [inK]; omega) rfl rfl rfl (run_l tabOk ?_); conv => whnf) | (refine wl_cvB tabOk rfl rfl rfl rfl rfl rfl (run_l tabOk ?_); conv => whnf) | (refine wl_rem rfl rfl rfl rfl rfl rfl (by omega) (by omega) (fun r hr hr0 hr1 hr2 => run_l tabOk ?_); conv => whnf) | (refine wl_quo rfl rfl rfl rfl rfl rfl (by omega) (by omega) (by simp only [inK]; omega) (run_l tabOk ?_); conv => whnf) | (refine wl_mul rfl rfl rfl rfl rfl rfl (by omega) (by omega) (run_l tabOk ?_); conv => whnf) | (refine gs_dt (by first | assumption | omega) ?_; conv => whnf) | (refine gs_df (by first | assumption | omega) ?_; conv => whnf) | (refine gs_t (by assumption) ?_; conv => whnf) | (refine gs_f (by assumption) ?_; conv => whnf) | (refine gs_d (fun hg => ?_) (fun hg => ?_) <;> conv => whnf) | (refine gs_n (fun hg => ?_) (fun hg => ?_) <;> conv => whnf) | (refine gs_nb (fun hg => ?_) (fun hg => ?_) <;> conv => whnf) | (refine gs_b (fun hg => ?_) (fun hg => ?_) <;> conv => whnf) | refine fin1 rfl rfl ?_))
      have hv9 := gints_push (y := (q : Int)) hI8 hel (by rw [hL]; exact hown9) hg9 hob9 (by omega)
      have hB9 : Below wr.heap.size wr w9 := (bup hBk hn8.below).grown hg9 (bup hBk hn8.below).size (fun b hb => (hI8.olt b hb).1)
      exact ⟨(k + 1, (E, ec), L ++ [(q : Int)]), ⟨rfl, rfl, rfl, rfl, rfl, rfl, rfl, rfl, trivial⟩, ⟨by omega, hB9, by simp [hL], hv9⟩, by omega⟩
    · have hDk := hD.below hBk
      have hgl : (gF v f).length = v := gF_len v f
      have hhl : (gF v (selfF n at_ f)).length = v := gF_len v _
      have hstep : ∀ (P : Prop), P → P := fun _ h => h
      by_cases hkx : k < x.length
      · have hk6' : ¬ k < 6 := fun h6 => hk6 ⟨hkx, h6⟩
        (repeat' (first | (refine wl_L tabOk rfl rfl rfl rfl rfl rfl hrow (run_l tabOk ?_); conv => whnf) | (refine wl_Xn tabOk 24 1 rfl rfl rfl rfl rfl rfl rfl (by omega) (run_l tabOk ?_); conv => whnf) | (refine wl_add rfl rfl rfl rfl rfl rfl (by omega) (by omega) (run_l tabOk ?_); conv => whnf) | (refine wl_sub rfl rfl rfl rfl rfl rfl (by omega) (by omega) (run_l tabOk ?_); conv => whnf) | (refine wl_cvA tabOk rfl rfl rfl (by simp only [inK]; omega) rfl rfl rfl (run_l tabOk ?_); conv => whnf) | (refine wl_cvB tabOk rfl rfl rfl rfl rfl rfl (run_l tabOk ?_); conv => whnf) | (refine wl_rem rfl rfl rfl rfl rfl rfl (by omega) (by omega) (fun r hr hr0 hr1 hr2 => run_l tabOk ?_); conv => whnf) | (refine wl_quo rfl rfl rfl rfl rfl rfl (by omega) (by omega) (by simp only [inK]; omega) (run_l tabOk ?_); conv => whnf) | (refine wl_mul rfl rfl rfl rfl rfl rfl (by omega) (by omega) (run_l tabOk ?_); conv => whnf) | (refine gs_dt (by first | assumption | omega) ?_; conv => whnf) | (refine gs_df (by first | assumption | omega) ?_; conv => whnf) | (refine gs_t (by assumption) ?_; conv => whnf) | (refine gs_f (by assumption) ?_; conv => whnf) | (refine gs_d (fun hg => ?_) (fun hg => ?_) <;> conv => whnf) | (refine gs_n (fun hg => ?_) (fun hg => ?_) <;> conv => whnf) | (refine gs_nb (fun hg => ?_) (fun hg => ?_) <;> conv => whnf) | (refine gs_b (fun hg => ?_) (fun hg => ?_) <;> conv => whnf) | refine fin1 rfl rfl ?_))
        subst hL
        refine wl_bs tabOk 24 1 rfl rfl rfl rfl rfl rfl rfl rfl rfl rfl ?_
        intro g7 w7 hn7
        refine run_l tabOk ?_
        conv => whnf
        have hD7 := hDk.below hn7.below
        have hI7 := hI.below hn7.below
        obtain ⟨⟨flat, hown, hel⟩, _, _⟩ := id hD7.p
        rw [hgl] at hown
        have hs7 : w.heap.size ≤ w7.heap.size := by have := hBw.size; have := hn7.size; omega
        refine wl_ap tabOk 24 1 24 hown hn7.blk rfl rfl rfl rfl rfl rfl rfl rfl rfl rfl rfl (by simp) (by simp [Value.oneCell']) (by omega) (by omega) hs7 ?_
        intro E ec w8 hown8 hg8 hob8
        refine run_l tabOk ?_
        conv => whnf
        obtain ⟨⟨fl, hlown, hlel⟩, _, _⟩ := id hI7
        have hlge : ∀ b, (Value.slice Al L.length cl).ownBlock = some b → some b ≠ (Value.slice Ag v cg).ownBlock ∧ some b ≠ (Value.slice Ah v ch).ownBlock := fun b hb => by
          have h1 := (hI.olt b hb).1
          refine ⟨fun e => ?_, fun e => ?_⟩
          · have := (hD.p.olt b e.symm).2; omega
          · have := (hD.q.olt b e.symm).2; omega
        have hD8 := hD7.snoc (v' := .slice E (v + 1) ec) hel hlown (hlel w7 (by simp)) rfl hB.size hlge (by rw [hgl]; exact hown8) hg8 hob8
        have hI8 : GInts wr.heap.size w8 (.slice Al L.length cl) L := hI7.stays _ hg8 (by simp) (by
          cases ho : (Value.slice Al L.length cl).ownBlock with
          | none => exact .inl rfl
          | some b => exact .inr (hlge b ho).1)
        have hB8 : Below w.heap.size w w8 := (bup hBw hn7.below).grown hg8 (bup hBw hn7.below).size (fun b hb => (hD7.p.olt b hb).1)
        obtain ⟨_, _, hRL⟩ := hI8.rowAt
        rw [gF_snoc] at hD8
        clear hD7 hI7 hown hel hown8 hg8 hob8 hlown hlel hDk hI8
        refine wl_bs tabOk 3 1 rfl rfl rfl rfl rfl rfl rfl rfl rfl rfl ?_
        intro g9 w9 hn9
        refine run_l tabOk ?_
        conv => whnf
        obtain ⟨⟨f9, hown9, hel9⟩, _, _⟩ := id (gints_one hn9 (Nat.le_refl _) (by omega))
        refine wl_apr tabOk 3 1 8 hown9 (hRL.up (stays_I _) hn9.below) (one_I _) rfl rfl rfl rfl rfl rfl rfl rfl rfl rfl rfl (by simp; omega) (by simp; omega) (by have := hn9.size; omega) ?_
        intro A10 c10 w10 news10 hel10 hown10 hg10 hob10
        have hB10 : Below w8.heap.size w8 w10 := hn9.below.grown hg10 hn9.below.size (fun b hb => (hown9.lt b hb).1)
        refine run_l tabOk ?_
        conv => whnf
        refine wl_apr tabOk 3 1 8 hown10 (hRL.up (stays_I _) hB10) (one_I _) rfl rfl rfl rfl rfl rfl rfl rfl rfl rfl rfl (by simp; omega) (by simp; omega) hB10.size ?_
        intro A11 c11 w11 news11 hel11 hown11 hg11 hob11
        have hB11 : Below w8.heap.size w8 w11 := hB10.grown hg11 hB10.size (fun b hb => (hown10.lt b hb).1)
        refine run_l tabOk ?_
        conv => whnf
        (repeat' (first | (refine wl_add rfl rfl rfl rfl rfl rfl (by omega) (by omega) (run_l tabOk ?_); conv => whnf) | (refine wl_sub rfl rfl rfl rfl rfl rfl (by omega) (by omega) (run_l tabOk ?_); conv => whnf) | (refine wl_cvA tabOk rfl rfl rfl (by simp only [inK]; omega) rfl rfl rfl (run_l tabOk ?_); conv => whnf) | (refine wl_cvB tabOk rfl rfl rfl rfl rfl rfl (run_l tabOk ?_); conv => whnf) | (refine wl_rem rfl rfl rfl rfl rfl rfl (by omega) (by omega) (fun r hr hr0 hr1 hr2 => run_l tabOk ?_); conv => whnf) | (refine wl_quo rfl rfl rfl rfl rfl rfl (by omega) (by omega) (by simp only [inK]; omega) (run_l tabOk ?_); conv => whnf) | (refine wl_mul rfl rfl rfl rfl rfl rfl (by omega) (by omega) (run_l tabOk ?_); conv => whnf) | (refine gs_dt (by first | assumption | omega) ?_; conv => whnf) | (refine gs_df (by first | assumption | omega) ?_; conv => whnf) | (refine gs_t (by assumption) ?_; conv => whnf) | (refine gs_f (by assumption) ?_; conv => whnf) | (refine gs_d (fun hg => ?_) (fun hg => ?_) <;> conv => whnf) | (refine gs_n (fun hg => ?_) (fun hg => ?_) <;> conv => whnf) | (refine gs_nb (fun hg => ?_) (fun hg => ?_) <;> conv => whnf) | (refine gs_b (fun hg => ?_) (fun hg => ?_) <;> conv => whnf) | refine fin1 rfl rfl ?_))
        refine wl_bs tabOk 3 1 rfl rfl rfl rfl rfl rfl rfl rfl rfl rfl ?_
        intro g12 w12 hn12
        refine run_l tabOk ?_
        conv => whnf
        have hown12 := hown11.kept (grown_of hn12.below) (Classical.em _)
        have hB12 := bup hB11 hn12.below
        refine wl_ap tabOk 3 1 8 hown12 hn12.blk rfl rfl rfl rfl rfl rfl rfl rfl rfl rfl rfl (by simp) (by simp [Value.oneCell']) (by simp; omega) (by simp; omega) hB12.size ?_
        intro A13 c13 w13 hown13 hg13 hob13
        have hB13 : Below w8.heap.size w8 w13 := hB12.grown hg13 hB12.size (fun b hb => (hown12.lt b hb).1)
        refine run_l tabOk ?_
        conv => whnf
        refine wl_bs tabOk 24 1 rfl rfl rfl rfl rfl rfl rfl rfl rfl rfl ?_
        intro g14 w14 hn14
        refine run_l tabOk ?_
        conv => whnf
        have hB14 := bup hB13 hn14.below
        have hown14 := hown13.kept (grown_of hn14.below) (Classical.em _)
        have hD14 := (hD8.below hB14).swap
        obtain ⟨⟨flat, hown, hel⟩, _, _⟩ := id hD14.p
        rw [hhl] at hown
        refine wl_ap tabOk 24 1 24 hown hn14.blk rfl rfl rfl rfl rfl rfl rfl rfl rfl rfl rfl (by simp) (by simp [Value.oneCell']) (by omega) (by omega) (by have := hB8.size; have := hB14.size; omega) ?_
        intro E15 ec15 w15 hown15 hg15 hob15
        refine run_l tabOk ?_
        conv => whnf
        have hel13 : Elems 1 (dI .i64) w14 (f9 ++ news10 ++ news11 ++ [.int .i64 (-1), .int .i64 ((n : Int) + (at_ : Int))]) ((v : Int) :: L ++ L ++ [-1, (n : Int) + (at_ : Int)]) :=
          elems_app (elems_app (elems_app (xs := [(v : Int)]) (hel9 w14 (by simp)) hel10) hel11) (elems_two (by omega) (by omega))
        have hD15 := hD14.snoc (v' := .slice E15 (v + 1) ec15) hel hown14 hel13 (by simp; omega) hB8.size (fun b hb => by
          have h1 := (hown14.lt b hb).1
          refine ⟨fun e => ?_, fun e => ?_⟩
          · have := (hD8.q.olt b e.symm).2; omega
          · have := (hD8.p.olt b e.symm).2; omega) (by rw [hhl]; exact hown15) hg15 hob15
        rw [gF_snoc, selfF_set] at hD15
        have hB15 : Below w.heap.size w w15 := (bup hB8 hB14).grown hg15 (bup hB8 hB14).size (fun b hb => (hD14.p.olt b hb).1)
        (repeat' (first | (refine wl_add rfl rfl rfl rfl rfl rfl (by omega) (by omega) (run_l tabOk ?_); conv => whnf) | (refine wl_sub rfl rfl rfl rfl rfl rfl (by omega) (by omega) (run_l tabOk ?_); conv => whnf) | (refine wl_cvA tabOk rfl rfl rfl (by simp only [inK]; omega) rfl rfl rfl (run_l tabOk ?_); conv => whnf) | (refine wl_cvB tabOk rfl rfl rfl rfl rfl rfl (run_l tabOk ?_); conv => whnf) | (refine wl_rem rfl rfl rfl rfl rfl rfl (by omega) (by omega) (fun r hr hr0 hr1 hr2 => run_l tabOk ?_); conv => whnf) | (refine wl_quo rfl rfl rfl rfl rfl rfl (by omega) (by omega) (by simp only [inK]; omega) (run_l tabOk ?_); conv => whnf) | (refine wl_mul rfl rfl rfl rfl rfl rfl (by omega) (by omega) (run_l tabOk ?_); conv => whnf) | (refine gs_dt (by first | assumption | omega) ?_; conv => whnf) | (refine gs_df (by first | assumption | omega) ?_; conv => whnf) | (refine gs_t (by assumption) ?_; conv => whnf) | (refine gs_f (by assumption) ?_; conv => whnf) | (refine gs_d (fun hg => ?_) (fun hg => ?_) <;> conv => whnf) | (refine gs_n (fun hg => ?_) (fun hg => ?_) <;> conv => whnf) | (refine gs_nb (fun hg => ?_) (fun hg => ?_) <;> conv => whnf) | (refine gs_b (fun hg => ?_) (fun hg => ?_) <;> conv => whnf) | refine fin1 rfl rfl ?_))
        exact ⟨(v + 1, (E, ec), (E15, ec15)), ⟨rfl, rfl, rfl, rfl, rfl, rfl, trivial⟩, ⟨hlt, hB15, _, _, _, hD15.swap⟩, by omega⟩
      · (repeat' (first | (refine wl_L tabOk rfl rfl rfl rfl rfl rfl hrow (run_l tabOk ?_); conv => whnf) | (refine wl_Xn tabOk 24 1 rfl rfl rfl rfl rfl rfl rfl (by omega) (run_l tabOk ?_); conv => whnf) | (refine wl_add rfl rfl rfl rfl rfl rfl (by omega) (by omega) (run_l tabOk ?_); conv => whnf) | (refine wl_sub rfl rfl rfl rfl rfl rfl (by omega) (by omega) (run_l tabOk ?_); conv => whnf) | (refine wl_cvA tabOk rfl rfl rfl (by simp only [inK]; omega) rfl rfl rfl (run_l tabOk ?_); conv => whnf) | (refine wl_cvB tabOk rfl rfl rfl rfl rfl rfl (run_l tabOk ?_); conv => whnf) | (refine wl_rem rfl rfl rfl rfl rfl rfl (by omega) (by omega) (fun r hr hr0 hr1 hr2 => run_l tabOk ?_); conv => whnf) | (refine wl_quo rfl rfl rfl rfl rfl rfl (by omega) (by omega) (by simp only [inK]; omega) (run_l tabOk ?_); conv => whnf) | (refine wl_mul rfl rfl rfl rfl rfl rfl (by omega) (by omega) (run_l tabOk ?_); conv => whnf) | (refine gs_dt (by first | assumption | omega) ?_; conv => whnf) | (refine gs_df (by first | assumption | omega) ?_; conv => whnf) | (refine gs_t (by assumption) ?_; conv => whnf) | (refine gs_f (by assumption) ?_; conv => whnf) | (refine gs_d (fun hg => ?_) (fun hg => ?_) <;> conv => whnf) | (refine gs_n (fun hg => ?_) (fun hg => ?_) <;> conv => whnf) | (refine gs_nb (fun hg => ?_) (fun hg => ?_) <;> conv => whnf) | (refine gs_b (fun hg => ?_) (fun hg => ?_) <;> conv => whnf) | refine fin1 rfl rfl ?_))
        subst hL
        refine wl_bs tabOk 24 1 rfl rfl rfl rfl rfl rfl rfl rfl rfl rfl ?_
        intro g7 w7 hn7
        refine run_l tabOk ?_
        conv => whnf
        have hD7 := hDk.below hn7.below
        have hI7 := hI.below hn7.below
        obtain ⟨⟨flat, hown, hel⟩, _, _⟩ := id hD7.p
        rw [hgl] at hown
        have hs7 : w.heap.size ≤ w7.heap.size := by have := hBw.size; have := hn7.size; omega
        refine wl_ap tabOk 24 1 24 hown hn7.blk rfl rfl rfl rfl rfl rfl rfl rfl rfl rfl rfl (by simp) (by simp [Value.oneCell']) (by omega) (by omega) hs7 ?_
        intro E ec w8 hown8 hg8 hob8
        refine run_l tabOk ?_
        conv => whnf
        obtain ⟨⟨fl, hlown, hlel⟩, _, _⟩ := id hI7
        have hlge : ∀ b, (Value.slice Al L.length cl).ownBlock = some b → some b ≠ (Value.slice Ag v cg).ownBlock ∧ some b ≠ (Value.slice Ah v ch).ownBlock := fun b hb => by
          have h1 := (hI.olt b hb).1
          refine ⟨fun e => ?_, fun e => ?_⟩
          · have := (hD.p.olt b e.symm).2; omega
          · have := (hD.q.olt b e.symm).2; omega
        have hD8 := hD7.snoc (v' := .slice E (v + 1) ec) hel hlown (hlel w7 (by simp)) rfl hB.size hlge (by rw [hgl]; exact hown8) hg8 hob8
        have hI8 : GInts wr.heap.size w8 (.slice Al L.length cl) L := hI7.stays _ hg8 (by simp) (by
          cases ho : (Value.slice Al L.length cl).ownBlock with
          | none => exact .inl rfl
          | some b => exact .inr (hlge b ho).1)
        have hB8 : Below w.heap.size w w8 := (bup hBw hn7.below).grown hg8 (bup hBw hn7.below).size (fun b hb => (hD7.p.olt b hb).1)
        obtain ⟨_, _, hRL⟩ := hI8.rowAt
        rw [gF_snoc] at hD8
        clear hD7 hI7 hown hel hown8 hg8 hob8 hlown hlel hDk hI8
        refine wl_bs tabOk 3 1 rfl rfl rfl rfl rfl rfl rfl rfl rfl rfl ?_
        intro g9 w9 hn9
        refine run_l tabOk ?_
        conv => whnf
        obtain ⟨⟨f9, hown9, hel9⟩, _, _⟩ := id (gints_one hn9 (Nat.le_refl _) (by omega))
        refine wl_apr tabOk 3 1 8 hown9 (hRL.up (stays_I _) hn9.below) (one_I _) rfl rfl rfl rfl rfl rfl rfl rfl rfl rfl rfl (by simp; omega) (by simp; omega) (by have := hn9.size; omega) ?_
        intro A10 c10 w10 news10 hel10 hown10 hg10 hob10
        have hB10 : Below w8.heap.size w8 w10 := hn9.below.grown hg10 hn9.below.size (fun b hb => (hown9.lt b hb).1)
        refine run_l tabOk ?_
        conv => whnf
        refine wl_apr tabOk 3 1 8 hown10 (hRL.up (stays_I _) hB10) (one_I _) rfl rfl rfl rfl rfl rfl rfl rfl rfl rfl rfl (by simp; omega) (by simp; omega) hB10.size ?_
        intro A11 c11 w11 news11 hel11 hown11 hg11 hob11
        have hB11 : Below w8.heap.size w8 w11 := hB10.grown hg11 hB10.size (fun b hb => (hown10.lt b hb).1)
        refine run_l tabOk ?_
        conv => whnf
        (repeat' (first | (refine wl_add rfl rfl rfl rfl rfl rfl (by omega) (by omega) (run_l tabOk ?_); conv => whnf) | (refine wl_sub rfl rfl rfl rfl rfl rfl (by omega) (by omega) (run_l tabOk ?_); conv => whnf) | (refine wl_cvA tabOk rfl rfl rfl (by simp only [inK]; omega) rfl rfl rfl (run_l tabOk ?_); conv => whnf) | (refine wl_cvB tabOk rfl rfl rfl rfl rfl rfl (run_l tabOk ?_); conv => whnf) | (refine wl_rem rfl rfl rfl rfl rfl rfl (by omega) (by omega) (fun r hr hr0 hr1 hr2 => run_l tabOk ?_); conv => whnf) | (refine wl_quo rfl rfl rfl rfl rfl rfl (by omega) (by omega) (by simp only [inK]; omega) (run_l tabOk ?_); conv => whnf) | (refine wl_mul rfl rfl rfl rfl rfl rfl (by omega) (by omega) (run_l tabOk ?_); conv => whnf) | (refine gs_dt (by first | assumption | omega) ?_; conv => whnf) | (refine gs_df (by first | assumption | omega) ?_; conv => whnf) | (refine gs_t (by assumption) ?_; conv => whnf) | (refine gs_f (by assumption) ?_; conv => whnf) | (refine gs_d (fun hg => ?_) (fun hg => ?_) <;> conv => whnf) | (refine gs_n (fun hg => ?_) (fun hg => ?_) <;> conv => whnf) | (refine gs_nb (fun hg => ?_) (fun hg => ?_) <;> conv => whnf) | (refine gs_b (fun hg => ?_) (fun hg => ?_) <;> conv => whnf) | refine fin1 rfl rfl ?_))
        refine wl_bs tabOk 3 1 rfl rfl rfl rfl rfl rfl rfl rfl rfl rfl ?_
        intro g12 w12 hn12
        refine run_l tabOk ?_
        conv => whnf
        have hown12 := hown11.kept (grown_of hn12.below) (Classical.em _)
        have hB12 := bup hB11 hn12.below
        refine wl_ap tabOk 3 1 8 hown12 hn12.blk rfl rfl rfl rfl rfl rfl rfl rfl rfl rfl rfl (by simp) (by simp [Value.oneCell']) (by simp; omega) (by simp; omega) hB12.size ?_
        intro A13 c13 w13 hown13 hg13 hob13
        have hB13 : Below w8.heap.size w8 w13 := hB12.grown hg13 hB12.size (fun b hb => (hown12.lt b hb).1)
        refine run_l tabOk ?_
        conv => whnf
        refine wl_bs tabOk 24 1 rfl rfl rfl rfl rfl rfl rfl rfl rfl rfl ?_
        intro g14 w14 hn14
        refine run_l tabOk ?_
        conv => whnf
        have hB14 := bup hB13 hn14.below
        have hown14 := hown13.kept (grown_of hn14.below) (Classical.em _)
        have hD14 := (hD8.below hB14).swap
        obtain ⟨⟨flat, hown, hel⟩, _, _⟩ := id hD14.p
        rw [hhl] at hown
        refine wl_ap tabOk 24 1 24 hown hn14.blk rfl rfl rfl rfl rfl rfl rfl rfl rfl rfl rfl (by simp) (by simp [Value.oneCell']) (by omega) (by omega) (by have := hB8.size; have := hB14.size; omega) ?_
        intro E15 ec15 w15 hown15 hg15 hob15
        refine run_l tabOk ?_
        conv => whnf
        have hel13 : Elems 1 (dI .i64) w14 (f9 ++ news10 ++ news11 ++ [.int .i64 (-1), .int .i64 ((n : Int) + (at_ : Int))]) ((v : Int) :: L ++ L ++ [-1, (n : Int) + (at_ : Int)]) :=
          elems_app (elems_app (elems_app (xs := [(v : Int)]) (hel9 w14 (by simp)) hel10) hel11) (elems_two (by omega) (by omega))
        have hD15 := hD14.snoc (v' := .slice E15 (v + 1) ec15) hel hown14 hel13 (by simp; omega) hB8.size (fun b hb => by
          have h1 := (hown14.lt b hb).1
          refine ⟨fun e => ?_, fun e => ?_⟩
          · have := (hD8.q.olt b e.symm).2; omega
          · have := (hD8.p.olt b e.symm).2; omega) (by rw [hhl]; exact hown15) hg15 hob15
        rw [gF_snoc, selfF_set] at hD15
        have hB15 : Below w.heap.size w w15 := (bup hB8 hB14).grown hg15 (bup hB8 hB14).size (fun b hb => (hD14.p.olt b hb).1)
        (repeat' (first | (refine wl_add rfl rfl rfl rfl rfl rfl (by omega) (by omega) (run_l tabOk ?_); conv => whnf) | (refine wl_sub rfl rfl rfl rfl rfl rfl (by omega) (by omega) (run_l tabOk ?_); conv => whnf) | (refine wl_cvA tabOk rfl rfl rfl (by simp only [inK]; omega) rfl rfl rfl (run_l tabOk ?_); conv => whnf) | (refine wl_cvB tabOk rfl rfl rfl rfl rfl rfl (run_l tabOk ?_); conv => whnf) | (refine wl_rem rfl rfl rfl rfl rfl rfl (by omega) (by omega) (fun r hr hr0 hr1 hr2 => run_l tabOk ?_); conv => whnf) | (refine wl_quo rfl rfl rfl rfl rfl rfl (by omega) (by omega) (by simp only [inK]; omega) (run_l tabOk ?_); conv => whnf) | (refine wl_mul rfl rfl rfl rfl rfl rfl (by omega) (by omega) (run_l tabOk ?_); conv => whnf) | (refine gs_dt (by first | assumption | omega) ?_; conv => whnf) | (refine gs_df (by first | assumption | omega) ?_; conv => whnf) | (refine gs_t (by assumption) ?_; conv => whnf) | (refine gs_f (by assumption) ?_; conv => whnf) | (refine gs_d (fun hg => ?_) (fun hg => ?_) <;> conv => whnf) | (refine gs_n (fun hg => ?_) (fun hg => ?_) <;> conv => whnf) | (refine gs_nb (fun hg => ?_) (fun hg => ?_) <;> conv => whnf) | (refine gs_b (fun hg => ?_) (fun hg => ?_) <;> conv => whnf) | refine fin1 rfl rfl ?_))
        exact ⟨(v + 1, (E, ec), (E15, ec15)), ⟨rfl, rfl, rfl, rfl, rfl, rfl, trivial⟩, ⟨hlt, hB15, _, _, _, hD15.swap⟩, by omega⟩
  · obtain rfl : v = n := by omega
    (repeat' (first | (refine wl_add rfl rfl rfl rfl rfl rfl (by omega) (by omega) (run_l tabOk ?_); conv => whnf) | (refine wl_sub rfl rfl rfl rfl rfl rfl (by omega) (by omega) (run_l tabOk ?_); conv => whnf) | (refine wl_cvA tabOk rfl rfl rfl (by simp only [inK]; omega) rfl rfl rfl (run_l tabOk ?_); conv => whnf) | (refine wl_cvB tabOk rfl rfl rfl rfl rfl rfl (run_l tabOk ?_); conv => whnf) | (refine wl_rem rfl rfl rfl rfl rfl rfl (by omega) (by omega) (fun r hr hr0 hr1 hr2 => run_l tabOk ?_); conv => whnf) | (refine wl_quo rfl rfl rfl rfl rfl rfl (by omega) (by omega) (by simp only [inK]; omega) (run_l tabOk ?_); conv => whnf) | (refine wl_mul rfl rfl rfl rfl rfl rfl (by omega) (by omega) (run_l tabOk ?_); conv => whnf) | (refine gs_dt (by first | assumption | omega) ?_; conv => whnf) | (refine gs_df (by first | assumption | omega) ?_; conv => whnf) | (refine gs_t (by assumption) ?_; conv => whnf) | (refine gs_f (by assumption) ?_; conv => whnf) | (refine gs_d (fun hg => ?_) (fun hg => ?_) <;> conv => whnf) | (refine gs_n (fun hg => ?_) (fun hg => ?_) <;> conv => whnf) | (refine gs_nb (fun hg => ?_) (fun hg => ?_) <;> conv => whnf) | (refine gs_b (fun hg => ?_) (fun hg => ?_) <;> conv => whnf) | refine fin1 rfl rfl ?_))
    have hla := gF_len v f
    have hlb := gF_len v (selfF v at_ f)
    obtain ⟨_, _, hra⟩ := hD.p.rowAt
    obtain ⟨_, _, hrb⟩ := hD.q.rowAt
    have hfa := kFind (gF v f) Ag cg wr hra (by omega)
    rw [hla] at hfa
    refine wl_C fn13 hfa rfl rfl rfl rfl rfl rfl rfl ?_
    rintro _ w5 ⟨⟨kn, of, Ak, ck, go, rfl, hK, hrk, hcn, hof⟩, hB5⟩
    refine ⟨_, rfl, run_l tabOk ?_⟩
    rw [hla] at hof ⊢
    conv => whnf
    (repeat' (first | (refine wl_add rfl rfl rfl rfl rfl rfl (by omega) (by omega) (run_l tabOk ?_); conv => whnf) | (refine wl_sub rfl rfl rfl rfl rfl rfl (by omega) (by omega) (run_l tabOk ?_); conv => whnf) | (refine wl_cvA tabOk rfl rfl rfl (by simp only [inK]; omega) rfl rfl rfl (run_l tabOk ?_); conv => whnf) | (refine wl_cvB tabOk rfl rfl rfl rfl rfl rfl (run_l tabOk ?_); conv => whnf) | (refine wl_rem rfl rfl rfl rfl rfl rfl (by omega) (by omega) (fun r hr hr0 hr1 hr2 => run_l tabOk ?_); conv => whnf) | (refine wl_quo rfl rfl rfl rfl rfl rfl (by omega) (by omega) (by simp only [inK]; omega) (run_l tabOk ?_); conv => whnf) | (refine wl_mul rfl rfl rfl rfl rfl rfl (by omega) (by omega) (run_l tabOk ?_); conv => whnf) | (refine gs_dt (by first | assumption | omega) ?_; conv => whnf) | (refine gs_df (by first | assumption | omega) ?_; conv => whnf) | (refine gs_t (by assumption) ?_; conv => whnf) | (refine gs_f (by assumption) ?_; conv => whnf) | (refine gs_d (fun hg => ?_) (fun hg => ?_) <;> conv => whnf) | (refine gs_n (fun hg => ?_) (fun hg => ?_) <;> conv => whnf) | (refine gs_nb (fun hg => ?_) (fun hg => ?_) <;> conv => whnf) | (refine gs_b (fun hg => ?_) (fun hg => ?_) <;> conv => whnf) | refine fin1 rfl rfl ?_))
    have hfb := kFind (gF v (selfF v at_ f)) Ah ch w5 (hrb.up stays_Ints hB5) (by omega)
    rw [hlb] at hfb
    refine wl_C fn13 hfb rfl rfl rfl rfl rfl rfl rfl ?_
    rintro _ w6 ⟨⟨kn2, of2, Ak2, ck2, go2, rfl, hK2, hrk2, hcn2, hof2⟩, hB6⟩
    refine ⟨_, rfl, run_l tabOk ?_⟩
    have hsame : ∀ a b, a < v → b < v → (of a = of b ↔ of2 a = of2 b) := fun a b ha hb => by
      rw [hK.scc a b (by omega) (by omega), hK2.scc a b (by omega) (by omega), self_rg (at_ := at_) (a := a) (b := b), self_rg (at_ := at_) (a := b) (b := a)]
    have hlen := hK.len_eq hK2 (by omega) (fun a b ha hb => hsame a b (by omega) (by omega))
    rw [hlb] at hof2 ⊢
    rw [← hlen]
    conv => whnf
    (repeat' (first | (refine wl_add rfl rfl rfl rfl rfl rfl (by omega) (by omega) (run_l tabOk ?_); conv => whnf) | (refine wl_sub rfl rfl rfl rfl rfl rfl (by omega) (by omega) (run_l tabOk ?_); conv => whnf) | (refine wl_cvA tabOk rfl rfl rfl (by simp only [inK]; omega) rfl rfl rfl (run_l tabOk ?_); conv => whnf) | (refine wl_cvB tabOk rfl rfl rfl rfl rfl rfl (run_l tabOk ?_); conv => whnf) | (refine wl_rem rfl rfl rfl rfl rfl rfl (by omega) (by omega) (fun r hr hr0 hr1 hr2 => run_l tabOk ?_); conv => whnf) | (refine wl_quo rfl rfl rfl rfl rfl rfl (by omega) (by omega) (by simp only [inK]; omega) (run_l tabOk ?_); conv => whnf) | (refine wl_mul rfl rfl rfl rfl rfl rfl (by omega) (by omega) (run_l tabOk ?_); conv => whnf) | (refine gs_dt (by first | assumption | omega) ?_; conv => whnf) | (refine gs_df (by first | assumption | omega) ?_; conv => whnf) | (refine gs_t (by assumption) ?_; conv => whnf) | (refine gs_f (by assumption) ?_; conv => whnf) | (refine gs_d (fun hg => ?_) (fun hg => ?_) <;> conv => whnf) | (refine gs_n (fun hg => ?_) (fun hg => ?_) <;> conv => whnf) | (refine gs_nb (fun hg => ?_) (fun hg => ?_) <;> conv => whnf) | (refine gs_b (fun hg => ?_) (fun hg => ?_) <;> conv => whnf) | refine fin1 rfl rfl ?_))
    have hof := hof.up (stays_I _) hB6
    have hBw := bup (bup hB hB5) hB6
    refine lp_loop tabOk (X := Nat) (fun a => [(5, .int .i64 (v : Int)), (13, .slice (some ⟨go, 0, none⟩) v v), (15, .slice (some ⟨go2, 0, none⟩) v v), (16, .int .i64 (a : Int))]) (fun a wr => a ≤ v ∧ Below w6.heap.size w6 wr) (fun a => v - a) 0 ⟨rfl, rfl, rfl, rfl, trivial⟩ ⟨by omega, Below.refl _ _⟩ ?_
    rintro a G4 wa ⟨ha, hBa⟩
    conv => whnf
    by_cases han : a < v
    · (repeat' (first | (refine wl_add rfl rfl rfl rfl rfl rfl (by omega) (by omega) (run_l tabOk ?_); conv => whnf) | (refine wl_sub rfl rfl rfl rfl rfl rfl (by omega) (by omega) (run_l tabOk ?_); conv => whnf) | (refine wl_cvA tabOk rfl rfl rfl (by simp only [inK]; omega) rfl rfl rfl (run_l tabOk ?_); conv => whnf) | (refine wl_cvB tabOk rfl rfl rfl rfl rfl rfl (run_l tabOk ?_); conv => whnf) | (refine wl_rem rfl rfl rfl rfl rfl rfl (by omega) (by omega) (fun r hr hr0 hr1 hr2 => run_l tabOk ?_); conv => whnf) | (refine wl_quo rfl rfl rfl rfl rfl rfl (by omega) (by omega) (by simp only [inK]; omega) (run_l tabOk ?_); conv => whnf) | (refine wl_mul rfl rfl rfl rfl rfl rfl (by omega) (by omega) (run_l tabOk ?_); conv => whnf) | (refine gs_dt (by first | assumption | omega) ?_; conv => whnf) | (refine gs_df (by first | assumption | omega) ?_; conv => whnf) | (refine gs_t (by assumption) ?_; conv => whnf) | (refine gs_f (by assumption) ?_; conv => whnf) | (refine gs_d (fun hg => ?_) (fun hg => ?_) <;> conv => whnf) | (refine gs_n (fun hg => ?_) (fun hg => ?_) <;> conv => whnf) | (refine gs_nb (fun hg => ?_) (fun hg => ?_) <;> conv => whnf) | (refine gs_b (fun hg => ?_) (fun hg => ?_) <;> conv => whnf) | refine fin1 rfl rfl ?_))
      refine lp_loop tabOk (X := Nat) (fun b => [(5, .int .i64 (v : Int)), (13, .slice (some ⟨go, 0, none⟩) v v), (15, .slice (some ⟨go2, 0, none⟩) v v), (16, .int .i64 (a : Int)), (17, .int .i64 (b : Int))]) (fun b wr => b ≤ v ∧ Below w6.heap.size w6 wr) (fun b => v - b) 0 ⟨rfl, rfl, rfl, rfl, rfl, trivial⟩ ⟨by omega, hBa⟩ ?_
      rintro b G5 wb ⟨hb, hBb⟩
      conv => whnf
      by_cases hbn : b < v
      · (repeat' (first | (refine wl_add rfl rfl rfl rfl rfl rfl (by omega) (by omega) (run_l tabOk ?_); conv => whnf) | (refine wl_sub rfl rfl rfl rfl rfl rfl (by omega) (by omega) (run_l tabOk ?_); conv => whnf) | (refine wl_cvA tabOk rfl rfl rfl (by simp only [inK]; omega) rfl rfl rfl (run_l tabOk ?_); conv => whnf) | (refine wl_cvB tabOk rfl rfl rfl rfl rfl rfl (run_l tabOk ?_); conv => whnf) | (refine wl_rem rfl rfl rfl rfl rfl rfl (by omega) (by omega) (fun r hr hr0 hr1 hr2 => run_l tabOk ?_); conv => whnf) | (refine wl_quo rfl rfl rfl rfl rfl rfl (by omega) (by omega) (by simp only [inK]; omega) (run_l tabOk ?_); conv => whnf) | (refine wl_mul rfl rfl rfl rfl rfl rfl (by omega) (by omega) (run_l tabOk ?_); conv => whnf) | (refine gs_dt (by first | assumption | omega) ?_; conv => whnf) | (refine gs_df (by first | assumption | omega) ?_; conv => whnf) | (refine gs_t (by assumption) ?_; conv => whnf) | (refine gs_f (by assumption) ?_; conv => whnf) | (refine gs_d (fun hg => ?_) (fun hg => ?_) <;> conv => whnf) | (refine gs_n (fun hg => ?_) (fun hg => ?_) <;> conv => whnf) | (refine gs_nb (fun hg => ?_) (fun hg => ?_) <;> conv => whnf) | (refine gs_b (fun hg => ?_) (fun hg => ?_) <;> conv => whnf) | refine fin1 rfl rfl ?_))
        have rd : ∀ (f : Nat → Nat) (gg j : Nat), RI w6 (some ⟨gg, 0, none⟩) (ofI v f) → j < v → wb.cell? ((⟨gg, 0, none⟩ : Addr).add (j * 1)) = some (.int .i64 (f j : Int)) := fun f gg j hr hj => by
          obtain ⟨z, ad3, ⟨hz3⟩, e3, hc4, _, _⟩ := intsE (hr.up (stays_I _) hBb) j (by rw [ofI_len]; exact hj)
          rw [ofI_at _ hj] at hz3
          subst hz3
          injection e3 with e3
          subst e3
          exact hc4
        have c1 := rd of go a hof han
        have c2 := rd of go b hof hbn
        have c3 := rd of2 go2 a hof2 han
        have c4 := rd of2 go2 b hof2 hbn
        refine wc_qr tabOk mixed (by kernel_rfl) ?_; conv => whnf
        (repeat' (first | (refine wq_L tabOk rfl rfl rfl rfl rfl rfl c1 (run_q tabOk ?_); conv => whnf) | (refine wq_L tabOk rfl rfl rfl rfl rfl rfl c2 (run_q tabOk ?_); conv => whnf) | (refine wq_L tabOk rfl rfl rfl rfl rfl rfl c3 (run_q tabOk ?_); conv => whnf) | (refine wq_L tabOk rfl rfl rfl rfl rfl rfl c4 (run_q tabOk ?_); conv => whnf) | (refine wq_Xn tabOk 3 1 rfl rfl rfl rfl rfl rfl rfl (by omega) (run_q tabOk ?_); conv => whnf) | (refine wq_add rfl rfl rfl rfl rfl rfl (by omega) (by omega) (run_q tabOk ?_); conv => whnf) | (refine wq_sub rfl rfl rfl rfl rfl rfl (by omega) (by omega) (run_q tabOk ?_); conv => whnf) | (refine wq_cvA tabOk rfl rfl rfl (by simp only [inK]; omega) rfl rfl rfl (run_q tabOk ?_); conv => whnf) | (refine wq_cvB tabOk rfl rfl rfl rfl rfl rfl (run_q tabOk ?_); conv => whnf) | (refine wq_rem rfl rfl rfl rfl rfl rfl (by omega) (by omega) (fun r hr hr0 hr1 hr2 => run_q tabOk ?_); conv => whnf) | (refine wq_quo rfl rfl rfl rfl rfl rfl (by omega) (by omega) (by simp only [inK]; omega) (run_q tabOk ?_); conv => whnf) | (refine wq_mul rfl rfl rfl rfl rfl rfl (by omega) (by omega) (run_q tabOk ?_); conv => whnf) | (refine gs_dt (by first | assumption | omega) ?_; conv => whnf) | (refine gs_df (by first | assumption | omega) ?_; conv => whnf) | (refine gs_t (by assumption) ?_; conv => whnf) | (refine gs_f (by assumption) ?_; conv => whnf) | (refine gs_d (fun hg => ?_) (fun hg => ?_) <;> conv => whnf) | (refine gs_n (fun hg => ?_) (fun hg => ?_) <;> conv => whnf) | (refine gs_nb (fun hg => ?_) (fun hg => ?_) <;> conv => whnf) | (refine gs_b (fun hg => ?_) (fun hg => ?_) <;> conv => whnf)))
        intro w8 hB8
        conv => whnf
        have hq : ((of a : Int) = (of b : Int)) ↔ ((of2 a : Int) = (of2 b : Int)) := by
          have := hsame a b han hbn
          omega
        have hbe := same_dec hq
        rw [hbe]
        conv => whnf
        (repeat' (first | (refine wl_add rfl rfl rfl rfl rfl rfl (by omega) (by omega) (run_l tabOk ?_); conv => whnf) | (refine wl_sub rfl rfl rfl rfl rfl rfl (by omega) (by omega) (run_l tabOk ?_); conv => whnf) | (refine wl_cvA tabOk rfl rfl rfl (by simp only [inK]; omega) rfl rfl rfl (run_l tabOk ?_); conv => whnf) | (refine wl_cvB tabOk rfl rfl rfl rfl rfl rfl (run_l tabOk ?_); conv => whnf) | (refine wl_rem rfl rfl rfl rfl rfl rfl (by omega) (by omega) (fun r hr hr0 hr1 hr2 => run_l tabOk ?_); conv => whnf) | (refine wl_quo rfl rfl rfl rfl rfl rfl (by omega) (by omega) (by simp only [inK]; omega) (run_l tabOk ?_); conv => whnf) | (refine wl_mul rfl rfl rfl rfl rfl rfl (by omega) (by omega) (run_l tabOk ?_); conv => whnf) | (refine gs_dt (by first | assumption | omega) ?_; conv => whnf) | (refine gs_df (by first | assumption | omega) ?_; conv => whnf) | (refine gs_t (by assumption) ?_; conv => whnf) | (refine gs_f (by assumption) ?_; conv => whnf) | (refine gs_d (fun hg => ?_) (fun hg => ?_) <;> conv => whnf) | (refine gs_n (fun hg => ?_) (fun hg => ?_) <;> conv => whnf) | (refine gs_nb (fun hg => ?_) (fun hg => ?_) <;> conv => whnf) | (refine gs_b (fun hg => ?_) (fun hg => ?_) <;> conv => whnf) | refine fin1 rfl rfl ?_))
        exact ⟨b + 1, ⟨rfl, rfl, rfl, rfl, rfl, trivial⟩, ⟨hbn, bup hBb hB8⟩, by omega⟩
      · (repeat' (first | (refine wl_add rfl rfl rfl rfl rfl rfl (by omega) (by omega) (run_l tabOk ?_); conv => whnf) | (refine wl_sub rfl rfl rfl rfl rfl rfl (by omega) (by omega) (run_l tabOk ?_); conv => whnf) | (refine wl_cvA tabOk rfl rfl rfl (by simp only [inK]; omega) rfl rfl rfl (run_l tabOk ?_); conv => whnf) | (refine wl_cvB tabOk rfl rfl rfl rfl rfl rfl (run_l tabOk ?_); conv => whnf) | (refine wl_rem rfl rfl rfl rfl rfl rfl (by omega) (by omega) (fun r hr hr0 hr1 hr2 => run_l tabOk ?_); conv => whnf) | (refine wl_quo rfl rfl rfl rfl rfl rfl (by omega) (by omega) (by simp only [inK]; omega) (run_l tabOk ?_); conv => whnf) | (refine wl_mul rfl rfl rfl rfl rfl rfl (by omega) (by omega) (run_l tabOk ?_); conv => whnf) | (refine gs_dt (by first | assumption | omega) ?_; conv => whnf) | (refine gs_df (by first | assumption | omega) ?_; conv => whnf) | (refine gs_t (by assumption) ?_; conv => whnf) | (refine gs_f (by assumption) ?_; conv => whnf) | (refine gs_d (fun hg => ?_) (fun hg => ?_) <;> conv => whnf) | (refine gs_n (fun hg => ?_) (fun hg => ?_) <;> conv => whnf) | (refine gs_nb (fun hg => ?_) (fun hg => ?_) <;> conv => whnf) | (refine gs_b (fun hg => ?_) (fun hg => ?_) <;> conv => whnf) | refine fin1 rfl rfl ?_))
        exact ⟨a + 1, ⟨rfl, rfl, rfl, rfl, trivial⟩, ⟨han, hBb⟩, by omega⟩
    · (repeat' (first | (refine wl_add rfl rfl rfl rfl rfl rfl (by omega) (by omega) (run_l tabOk ?_); conv => whnf) | (refine wl_sub rfl rfl rfl rfl rfl rfl (by omega) (by omega) (run_l tabOk ?_); conv => whnf) | (refine wl_cvA tabOk rfl rfl rfl (by simp only [inK]; omega) rfl rfl rfl (run_l tabOk ?_); conv => whnf) | (refine wl_cvB tabOk rfl rfl rfl rfl rfl rfl (run_l tabOk ?_); conv => whnf) | (refine wl_rem rfl rfl rfl rfl rfl rfl (by omega) (by omega) (fun r hr hr0 hr1 hr2 => run_l tabOk ?_); conv => whnf) | (refine wl_quo rfl rfl rfl rfl rfl rfl (by omega) (by omega) (by simp only [inK]; omega) (run_l tabOk ?_); conv => whnf) | (refine wl_mul rfl rfl rfl rfl rfl rfl (by omega) (by omega) (run_l tabOk ?_); conv => whnf) | (refine gs_dt (by first | assumption | omega) ?_; conv => whnf) | (refine gs_df (by first | assumption | omega) ?_; conv => whnf) | (refine gs_t (by assumption) ?_; conv => whnf) | (refine gs_f (by assumption) ?_; conv => whnf) | (refine gs_d (fun hg => ?_) (fun hg => ?_) <;> conv => whnf) | (refine gs_n (fun hg => ?_) (fun hg => ?_) <;> conv => whnf) | (refine gs_nb (fun hg => ?_) (fun hg => ?_) <;> conv => whnf) | (refine gs_b (fun hg => ?_) (fun hg => ?_) <;> conv => whnf) | refine fin1 rfl rfl ?_))
      exact ⟨rfl, bup hBw hBa⟩
end Go.Proofs.Ytomldckplkecbaa
