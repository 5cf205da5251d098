/- The walk of HuOrders. -/
import Derived.Test.YtjggjhgbobmkhaaY21
import Derived.Test.YtjggjhgbobmkhaaY5
import Derived.Test.YtjggjhgbobmkhaaY23
namespace Go.Proofs.Ytjggjhgbobmkhaa
open Go.RowKit
set_option linter.unusedVariables false
set_option linter.unusedSimpArgs false
set_option maxRecDepth 100000
section
variable {n nc : Nat} {m : Int} {xs : List Cell} {ys zs : List Con}
theorem rch_mono {E E' : Nat → Nat → Prop} (h : ∀ a b, E a b → E' a b) {a b : Nat} (r : Rch E a b) : Rch E' a b := by
  induction r with
  | refl a => exact .refl a
  | step e _ ih => exact .step (h _ _ e) ih
theorem any_mono {α : Type} {p : α → Bool} {xs ys : List α} (h : ∀ c ∈ xs, c ∈ ys) (hp : xs.any p = true) : ys.any p = true := by
  rw [List.any_eq_true] at hp ⊢
  obtain ⟨c, h1, h2⟩ := hp
  exact ⟨c, h c h1, h2⟩
theorem Src.mono (h : ∀ c ∈ zs, c ∈ ys) {v j : Nat} (hs : Src n nc ⟨m, xs, zs⟩ v j) : Src n nc ⟨m, xs, ys⟩ v j := by
  obtain ⟨u, h1, h2⟩ := hs
  refine ⟨u, rch_mono (fun a b ⟨c, h3, h4⟩ => ⟨c, h c h3, h4⟩) h1, ?_⟩
  rcases h2 with ⟨c, h3, h4⟩ | ⟨h3, h4⟩
  · exact .inl ⟨c, h c h3, h4⟩
  · refine .inr ⟨h3, ?_⟩
    simp only [looseAt, Bool.or_eq_true] at h4 ⊢
    exact h4.imp id (any_mono h)
theorem right_mem (h : rightB ⟨m, xs, ys⟩ = true) (h1 : ∀ c ∈ zs, c ∈ ys) (hl : zs.length ≤ 131072) : rightB ⟨m, xs, zs⟩ = true := by
  simp only [rightB, bigOk, Bool.and_eq_true, decide_eq_true_eq, List.all_eq_true] at h ⊢
  obtain ⟨⟨⟨⟨h3, h2⟩, h5⟩, h4⟩, h6⟩ := h
  exact ⟨⟨⟨⟨h3, h2⟩, hl⟩, h4⟩, fun c hc => h6 c (h1 c hc)⟩
end
/-- A row of constraints, by functions. -/
theorem consF {w : World} {ad : Addr} {ys : List Con} (h : RCons w (some ad) ys) : ∃ (fB : Nat → Option Addr) (fc : Nat → Nat), ∀ i, i < ys.length →
    cellsAt w (ad.add (i * 4)) 0 [.int .u8 ys[i]!.k, .int .i64 ys[i]!.a, .int .i64 ys[i]!.b, .slice (fB i) ys[i]!.args.length (fc i)] ∧ dCon w [.int .u8 ys[i]!.k, .int .i64 ys[i]!.a, .int .i64 ys[i]!.b, .slice (fB i) ys[i]!.args.length (fc i)] ys[i]! := by
  have key : ∀ i, ∃ p : Option Addr × Nat, i < ys.length → cellsAt w (ad.add (i * 4)) 0 [.int .u8 ys[i]!.k, .int .i64 ys[i]!.a, .int .i64 ys[i]!.b, .slice p.1 ys[i]!.args.length p.2] ∧ dCon w [.int .u8 ys[i]!.k, .int .i64 ys[i]!.a, .int .i64 ys[i]!.b, .slice p.1 ys[i]!.args.length p.2] ys[i]! := fun i => by
    by_cases hi : i < ys.length
    · obtain ⟨x, ad', B, c, hx, e, hc, hl, hr, h1, h2, h3, h4⟩ := consE h i hi
      cases e
      refine ⟨(B, c), fun _ => ?_⟩
      rw [hx.out]
      exact ⟨hc, B, c, rfl, hl, hr.out, ⟨h1, h2⟩, h3, h4⟩
    · exact ⟨(none, 0), fun h => absurd h hi⟩
  refine ⟨fun i => (Classical.choose (key i)).1, fun i => (Classical.choose (key i)).2, fun i hi => Classical.choose_spec (key i) hi⟩
theorem LRow.put {α : Type} [Inhabited α] {sz : Nat} {d : Dec α} {e : TypeId} {base : Nat} {w0 w w1 : World} {v : Value} {xs : List α} (h : LRow sz d e base w0 w v xs) {g : Nat} {cs : List Value} {t : TypeId} (hp : Put w w1 g cs t) (hg : g < base) : LRow sz d e base w0 w1 v xs := by
  obtain ⟨flat, o1, o2⟩ := h.own
  exact ⟨flat, o1.kept hp.grown (.inr fun e => by have := (o1.lt _ e).1; omega), o2⟩
/-- A row of constraints grows by one, twice. -/
theorem LRow.twice {base : Nat} {w0 w1 : World} {zs : List Con} {flat : List Value} {E : Option Addr} {ec : Nat} {y : Con} {B : Option Addr} {cc : Nat} (hel : ∀ w', Below w0.heap.size w0 w' → Elems 4 dCon w' flat zs) (hd : dCon w0 [.int .u8 y.k, .int .i64 y.a, .int .i64 y.b, .slice B y.args.length cc] y)
    (ho : w1.ownsRow base 46 4 (.slice E (zs.length + 2) ec) (zs.length + 2) (flat ++ [.int .u8 y.k, .int .i64 y.a, .int .i64 y.b, .slice B y.args.length cc, .int .u8 y.k, .int .i64 y.a, .int .i64 y.b, .slice B y.args.length cc])) : LRow 4 dCon 46 base w0 w1 (.slice E (zs.length + 2) ec) (zs ++ [y, y]) := by
  have hl : (zs ++ [y, y]).length = zs.length + 2 := by simp
  refine ⟨_, by rw [hl]; exact ho, fun w' hw' => ?_⟩
  have hd' := stays_Con.go _ _ _ _ hw'.block hd
  have h := ((hel w' hw').push rfl hd').push rfl hd'
  rw [List.append_assoc, List.append_assoc] at h
  exact h
set_option maxHeartbeats 16000000 in
theorem lawHuOrders (d : Draft) (A : Option Addr) (c : Nat) (w : World) (h : RActs w A d.acts) (hk : (0 ≤ d.vars ∧ d.vars ≤ 255) ∧ 0 ≤ d.cells ∧ d.cells ≤ 255) :
    Calls Try.prog 5 #[.agg #[.int .u8 d.vars, .int .u8 d.cells, .slice A d.acts.length c]] w fun e w' => e = .returned (.bool true) ∧ Below w.heap.size w w' := by
  refine enterR (args := [.agg #[.int .u8 d.vars, .int .u8 d.cells, .slice A d.acts.length c]]) tabOk Try.func5 rfl Try.ntmps5 rfl ?_; conv => whnf
  refine wl_box rfl rfl rfl rfl rfl rfl ?_
  intro g1 w1 hn1
  refine run_l tabOk ?_
  conv => whnf
  refine wl_C fn14 (awake18 _) rfl rfl rfl rfl rfl rfl rfl ?_
  rintro _ w2 ⟨rfl, hB2⟩
  have hb := blk_up hB2 hn1.blk
  have hB := bup hn1.below hB2
  refine ⟨_, rfl, run_l tabOk ?_⟩
  conv => whnf
  by_cases hbig : 40 < d.acts.length
  · (repeat' (first | (refine wl_Lg tabOk hb rfl rfl rfl rfl rfl rfl rfl (run_l tabOk ?_); conv => whnf) | (refine wl_add rfl rfl rfl rfl rfl rfl (by omega) (by omega) (run_l tabOk ?_); conv => whnf) | (refine wl_sub rfl rfl rfl rfl rfl rfl (by omega) (by omega) (run_l tabOk ?_); conv => whnf) | (refine wl_cvA tabOk rfl rfl rfl (by simp only [inK]; omega) rfl rfl rfl (run_l tabOk ?_); conv => whnf) | (refine wl_cvB tabOk rfl rfl rfl rfl rfl rfl (run_l tabOk ?_); conv => whnf) | (refine wl_rem rfl rfl rfl rfl rfl rfl (by omega) (by omega) (fun r hr hr0 hr1 hr2 => run_l tabOk ?_); conv => whnf) | (refine wl_quo rfl rfl rfl rfl rfl rfl (by omega) (by omega) (by simp only [inK]; omega) (run_l tabOk ?_); conv => whnf) | (refine wl_mul rfl rfl rfl rfl rfl rfl (by omega) (by omega) (run_l tabOk ?_); conv => whnf) | (refine gs_dt (by first | assumption | omega) ?_; conv => whnf) | (refine gs_df (by first | assumption | omega) ?_; conv => whnf) | (refine gs_t (by assumption) ?_; conv => whnf) | (refine gs_f (by assumption) ?_; conv => whnf) | (refine gs_d (fun hg => ?_) (fun hg => ?_) <;> conv => whnf) | (refine gs_n (fun hg => ?_) (fun hg => ?_) <;> conv => whnf) | (refine gs_nb (fun hg => ?_) (fun hg => ?_) <;> conv => whnf) | (refine gs_b (fun hg => ?_) (fun hg => ?_) <;> conv => whnf) | refine fin1 rfl rfl ?_))
    refine wl_C fn14 (awake18 _) rfl rfl rfl rfl rfl rfl rfl ?_
    rintro _ w3 ⟨rfl, hB3⟩
    refine ⟨_, rfl, run_l tabOk ?_⟩
    conv => whnf
    (repeat' (first | (refine wl_add rfl rfl rfl rfl rfl rfl (by omega) (by omega) (run_l tabOk ?_); conv => whnf) | (refine wl_sub rfl rfl rfl rfl rfl rfl (by omega) (by omega) (run_l tabOk ?_); conv => whnf) | (refine wl_cvA tabOk rfl rfl rfl (by simp only [inK]; omega) rfl rfl rfl (run_l tabOk ?_); conv => whnf) | (refine wl_cvB tabOk rfl rfl rfl rfl rfl rfl (run_l tabOk ?_); conv => whnf) | (refine wl_rem rfl rfl rfl rfl rfl rfl (by omega) (by omega) (fun r hr hr0 hr1 hr2 => run_l tabOk ?_); conv => whnf) | (refine wl_quo rfl rfl rfl rfl rfl rfl (by omega) (by omega) (by simp only [inK]; omega) (run_l tabOk ?_); conv => whnf) | (refine wl_mul rfl rfl rfl rfl rfl rfl (by omega) (by omega) (run_l tabOk ?_); conv => whnf) | (refine gs_dt (by first | assumption | omega) ?_; conv => whnf) | (refine gs_df (by first | assumption | omega) ?_; conv => whnf) | (refine gs_t (by assumption) ?_; conv => whnf) | (refine gs_f (by assumption) ?_; conv => whnf) | (refine gs_d (fun hg => ?_) (fun hg => ?_) <;> conv => whnf) | (refine gs_n (fun hg => ?_) (fun hg => ?_) <;> conv => whnf) | (refine gs_nb (fun hg => ?_) (fun hg => ?_) <;> conv => whnf) | (refine gs_b (fun hg => ?_) (fun hg => ?_) <;> conv => whnf) | refine fin1 rfl rfl ?_))
    exact ⟨rfl, bup hB hB3⟩
  (repeat' (first | (refine wl_Lg tabOk hb rfl rfl rfl rfl rfl rfl rfl (run_l tabOk ?_); conv => whnf) | (refine wl_Lag tabOk hb rfl rfl rfl rfl rfl rfl (run_l tabOk ?_); conv => whnf) | (refine wl_add rfl rfl rfl rfl rfl rfl (by omega) (by omega) (run_l tabOk ?_); conv => whnf) | (refine wl_sub rfl rfl rfl rfl rfl rfl (by omega) (by omega) (run_l tabOk ?_); conv => whnf) | (refine wl_cvA tabOk rfl rfl rfl (by simp only [inK]; omega) rfl rfl rfl (run_l tabOk ?_); conv => whnf) | (refine wl_cvB tabOk rfl rfl rfl rfl rfl rfl (run_l tabOk ?_); conv => whnf) | (refine wl_rem rfl rfl rfl rfl rfl rfl (by omega) (by omega) (fun r hr hr0 hr1 hr2 => run_l tabOk ?_); conv => whnf) | (refine wl_quo rfl rfl rfl rfl rfl rfl (by omega) (by omega) (by simp only [inK]; omega) (run_l tabOk ?_); conv => whnf) | (refine wl_mul rfl rfl rfl rfl rfl rfl (by omega) (by omega) (run_l tabOk ?_); conv => whnf) | (refine gs_dt (by first | assumption | omega) ?_; conv => whnf) | (refine gs_df (by first | assumption | omega) ?_; conv => whnf) | (refine gs_t (by assumption) ?_; conv => whnf) | (refine gs_f (by assumption) ?_; conv => whnf) | (refine gs_d (fun hg => ?_) (fun hg => ?_) <;> conv => whnf) | (refine gs_n (fun hg => ?_) (fun hg => ?_) <;> conv => whnf) | (refine gs_nb (fun hg => ?_) (fun hg => ?_) <;> conv => whnf) | (refine gs_b (fun hg => ?_) (fun hg => ?_) <;> conv => whnf) | refine fin1 rfl rfl ?_))
  refine wl_C fn15 (refMake d A c w2 (h.up stays_Act hB) hk.1 hk.2) rfl rfl rfl rfl rfl rfl rfl ?_
  rintro _ w3 ⟨s, va, vb', bs, cs, rfl, hB3, hM⟩
  have hright := hM.right
  have hvars := hM.vars
  have hnce := hM.ncells
  have hncons := hM.ncons
  obtain ⟨A1, c1, rfl, _, hr1⟩ := hM.cells.row
  obtain ⟨A2, c2, rfl, _, hr2⟩ := hM.cons.row
  have hB03 := bup hB hB3
  clear hM hb hB2 hn1
  obtain ⟨vars, xs, ys⟩ := s
  simp only at hright hvars hr1 hr2 hnce hncons
  obtain ⟨n, rfl⟩ : ∃ n : Nat, vars = n := ⟨vars.toNat, by omega⟩
  have hn12 : n ≤ 12 := by omega
  refine ⟨_, rfl, run_l tabOk ?_⟩
  conv => whnf
  refine wl_alloc tabOk rfl rfl rfl rfl rfl rfl ?_
  intro g3 w4 hn4
  refine run_l tabOk ?_
  conv => whnf
  refine wl_Sa tabOk hn4.blk rfl rfl rfl rfl rfl (by simp [Value.oneCell']) rfl rfl ?_
  intro w5 hp5
  have hB5 : Below w3.heap.size w3 w5 := hp5.below hn4.below (by have := hn4.at_; omega) (by have := hn4.size; omega)
  have hb3 : w5.heap[g3]? = some (.cells #[.int .i64 n, .slice A1 xs.length c1, .slice A2 ys.length c2] 29 (0, 0)) := hp5.blk
  have hr1 := hr1.up stays_Cell hB5
  have hr2 := hr2.up stays_Con hB5
  have hB05 := bup hB03 hB5
  clear hp5 hn4 hB03 hB5 hB3
  refine run_l tabOk ?_
  conv => whnf
  (repeat' (first | (refine wl_Lag tabOk hb3 rfl rfl rfl rfl rfl rfl (run_l tabOk ?_); conv => whnf) | (refine wl_add rfl rfl rfl rfl rfl rfl (by omega) (by omega) (run_l tabOk ?_); conv => whnf) | (refine wl_sub rfl rfl rfl rfl rfl rfl (by omega) (by omega) (run_l tabOk ?_); conv => whnf) | (refine wl_cvA tabOk rfl rfl rfl (by simp only [inK]; omega) rfl rfl rfl (run_l tabOk ?_); conv => whnf) | (refine wl_cvB tabOk rfl rfl rfl rfl rfl rfl (run_l tabOk ?_); conv => whnf) | (refine wl_rem rfl rfl rfl rfl rfl rfl (by omega) (by omega) (fun r hr hr0 hr1 hr2 => run_l tabOk ?_); conv => whnf) | (refine wl_quo rfl rfl rfl rfl rfl rfl (by omega) (by omega) (by simp only [inK]; omega) (run_l tabOk ?_); conv => whnf) | (refine wl_mul rfl rfl rfl rfl rfl rfl (by omega) (by omega) (run_l tabOk ?_); conv => whnf) | (refine gs_dt (by first | assumption | omega) ?_; conv => whnf) | (refine gs_df (by first | assumption | omega) ?_; conv => whnf) | (refine gs_t (by assumption) ?_; conv => whnf) | (refine gs_f (by assumption) ?_; conv => whnf) | (refine gs_d (fun hg => ?_) (fun hg => ?_) <;> conv => whnf) | (refine gs_n (fun hg => ?_) (fun hg => ?_) <;> conv => whnf) | (refine gs_nb (fun hg => ?_) (fun hg => ?_) <;> conv => whnf) | (refine gs_b (fun hg => ?_) (fun hg => ?_) <;> conv => whnf) | refine fin1 rfl rfl ?_))
  refine wl_alloc tabOk rfl rfl rfl rfl rfl rfl ?_
  intro g9 w6 hn6
  refine run_l tabOk ?_
  conv => whnf
  (repeat' (first | (refine wl_add rfl rfl rfl rfl rfl rfl (by omega) (by omega) (run_l tabOk ?_); conv => whnf) | (refine wl_sub rfl rfl rfl rfl rfl rfl (by omega) (by omega) (run_l tabOk ?_); conv => whnf) | (refine wl_cvA tabOk rfl rfl rfl (by simp only [inK]; omega) rfl rfl rfl (run_l tabOk ?_); conv => whnf) | (refine wl_cvB tabOk rfl rfl rfl rfl rfl rfl (run_l tabOk ?_); conv => whnf) | (refine wl_rem rfl rfl rfl rfl rfl rfl (by omega) (by omega) (fun r hr hr0 hr1 hr2 => run_l tabOk ?_); conv => whnf) | (refine wl_quo rfl rfl rfl rfl rfl rfl (by omega) (by omega) (by simp only [inK]; omega) (run_l tabOk ?_); conv => whnf) | (refine wl_mul rfl rfl rfl rfl rfl rfl (by omega) (by omega) (run_l tabOk ?_); conv => whnf) | (refine gs_dt (by first | assumption | omega) ?_; conv => whnf) | (refine gs_df (by first | assumption | omega) ?_; conv => whnf) | (refine gs_t (by assumption) ?_; conv => whnf) | (refine gs_f (by assumption) ?_; conv => whnf) | (refine gs_d (fun hg => ?_) (fun hg => ?_) <;> conv => whnf) | (refine gs_n (fun hg => ?_) (fun hg => ?_) <;> conv => whnf) | (refine gs_nb (fun hg => ?_) (fun hg => ?_) <;> conv => whnf) | (refine gs_b (fun hg => ?_) (fun hg => ?_) <;> conv => whnf) | refine fin1 rfl rfl ?_))
  refine wl_Sa tabOk hn6.blk rfl rfl rfl rfl rfl (by simp [Value.oneCell']) rfl rfl ?_
  intro w7 hp7
  refine run_l tabOk ?_
  conv => whnf
  have hb97 : w7.heap[g9]? = some (.cells #[.int .i64 n, .slice A1 xs.length c1, .slice A2 ys.length c2] 29 (0, 0)) := hp7.blk
  have hg9 : w5.heap.size ≤ g9 := by have := hn6.at_; omega
  have hB57 : Below w5.heap.size w5 w7 := hp7.below hn6.below hg9 (by have := hn6.size; omega)
  (repeat' (first | (refine wl_add rfl rfl rfl rfl rfl rfl (by omega) (by omega) (run_l tabOk ?_); conv => whnf) | (refine wl_sub rfl rfl rfl rfl rfl rfl (by omega) (by omega) (run_l tabOk ?_); conv => whnf) | (refine wl_cvA tabOk rfl rfl rfl (by simp only [inK]; omega) rfl rfl rfl (run_l tabOk ?_); conv => whnf) | (refine wl_cvB tabOk rfl rfl rfl rfl rfl rfl (run_l tabOk ?_); conv => whnf) | (refine wl_rem rfl rfl rfl rfl rfl rfl (by omega) (by omega) (fun r hr hr0 hr1 hr2 => run_l tabOk ?_); conv => whnf) | (refine wl_quo rfl rfl rfl rfl rfl rfl (by omega) (by omega) (by simp only [inK]; omega) (run_l tabOk ?_); conv => whnf) | (refine wl_mul rfl rfl rfl rfl rfl rfl (by omega) (by omega) (run_l tabOk ?_); conv => whnf) | (refine gs_dt (by first | assumption | omega) ?_; conv => whnf) | (refine gs_df (by first | assumption | omega) ?_; conv => whnf) | (refine gs_t (by assumption) ?_; conv => whnf) | (refine gs_f (by assumption) ?_; conv => whnf) | (refine gs_d (fun hg => ?_) (fun hg => ?_) <;> conv => whnf) | (refine gs_n (fun hg => ?_) (fun hg => ?_) <;> conv => whnf) | (refine gs_nb (fun hg => ?_) (fun hg => ?_) <;> conv => whnf) | (refine gs_b (fun hg => ?_) (fun hg => ?_) <;> conv => whnf) | refine fin1 rfl rfl ?_))
  refine wl_S (off := 2) (v := .slice none 0 0) tabOk hb97 rfl rfl rfl rfl rfl rfl (by simp) rfl rfl ?_
  intro w8 hp8
  refine run_l tabOk ?_
  conv => whnf
  have hb9 : w8.heap[g9]? = some (.cells #[.int .i64 n, .slice A1 xs.length c1, .slice none 0 0] 29 (0, 0)) := hp8.blk
  have hB58 : Below w5.heap.size w5 w8 := hp8.below hB57 hg9 hB57.size
  have hb35 := hb3
  have hb3 := blk_up hB58 hb3
  have hg9l := blk_lt hb9
  have hym : ys.length ≤ 131072 := (right_few hright).2.2
  have hyy : ys.length ≤ 40 := hncons
  clear hp8 hb97 hp7 hB57 hn6
  (repeat' (first | (refine wl_Lg tabOk hb3 rfl rfl rfl rfl rfl rfl rfl (run_l tabOk ?_); conv => whnf) | (refine wl_add rfl rfl rfl rfl rfl rfl (by omega) (by omega) (run_l tabOk ?_); conv => whnf) | (refine wl_sub rfl rfl rfl rfl rfl rfl (by omega) (by omega) (run_l tabOk ?_); conv => whnf) | (refine wl_cvA tabOk rfl rfl rfl (by simp only [inK]; omega) rfl rfl rfl (run_l tabOk ?_); conv => whnf) | (refine wl_cvB tabOk rfl rfl rfl rfl rfl rfl (run_l tabOk ?_); conv => whnf) | (refine wl_rem rfl rfl rfl rfl rfl rfl (by omega) (by omega) (fun r hr hr0 hr1 hr2 => run_l tabOk ?_); conv => whnf) | (refine wl_quo rfl rfl rfl rfl rfl rfl (by omega) (by omega) (by simp only [inK]; omega) (run_l tabOk ?_); conv => whnf) | (refine wl_mul rfl rfl rfl rfl rfl rfl (by omega) (by omega) (run_l tabOk ?_); conv => whnf) | (refine gs_dt (by first | assumption | omega) ?_; conv => whnf) | (refine gs_df (by first | assumption | omega) ?_; conv => whnf) | (refine gs_t (by assumption) ?_; conv => whnf) | (refine gs_f (by assumption) ?_; conv => whnf) | (refine gs_d (fun hg => ?_) (fun hg => ?_) <;> conv => whnf) | (refine gs_n (fun hg => ?_) (fun hg => ?_) <;> conv => whnf) | (refine gs_nb (fun hg => ?_) (fun hg => ?_) <;> conv => whnf) | (refine gs_b (fun hg => ?_) (fun hg => ?_) <;> conv => whnf) | refine fin1 rfl rfl ?_))
  refine wc_ends 0 (fun _ _ => False) (X := List Con × Option Addr × Nat) (fun x => [(3, .pointer (some ⟨g3, 0, none⟩)), (4, .pointer (some ⟨g9, 0, none⟩))])
    (fun x wr => Below w5.heap.size w5 wr ∧ wr.heap[g9]? = some (.cells #[.int .i64 n, .slice A1 xs.length c1, .slice x.2.1 x.1.length x.2.2] 29 (0, 0)) ∧ LRow 4 dCon 46 w8.heap.size w5 wr (.slice x.2.1 x.1.length x.2.2) x.1 ∧ x.1.length ≤ 131072 ∧ (∀ c ∈ x.1, c ∈ ys) ∧ ∀ c ∈ ys, c ∈ x.1) ?_ (fun _ _ h => h.elim) ?_
  · refine lp_loop tabOk (X := List Con × Option Addr × Nat × Int) (fun x => [(3, .pointer (some ⟨g3, 0, none⟩)), (4, .pointer (some ⟨g9, 0, none⟩)), (5, .int .i64 x.2.2.2)])
      (fun x wr => (-1 ≤ x.2.2.2 ∧ x.2.2.2 < ys.length) ∧ (x.1.length : Int) ≤ 2 * (ys.length - 1 - x.2.2.2) ∧ Below w5.heap.size w5 wr ∧ w8.heap.size ≤ wr.heap.size ∧ wr.heap[g9]? = some (.cells #[.int .i64 n, .slice A1 xs.length c1, .slice x.2.1 x.1.length x.2.2.1] 29 (0, 0)) ∧ LRow 4 dCon 46 w8.heap.size w5 wr (.slice x.2.1 x.1.length x.2.2.1) x.1 ∧ (∀ c ∈ x.1, c ∈ ys) ∧ ∀ j : Nat, x.2.2.2 < j → j < ys.length → ys[j]! ∈ x.1)
      (fun x => (x.2.2.2 + 1).toNat) ([], none, 0, (ys.length : Int) - 1) ⟨rfl, rfl, rfl, trivial⟩ ⟨by simp only; omega, by simp only [List.length_nil]; omega, hB58, Nat.le_refl _, hb9, LRow.nil .., by simp, fun j h1 h2 => by simp only at h1; omega⟩ ?_
    clear hb9 hb3
    rintro ⟨zs, D, dc, r⟩ G wr ⟨⟨hi, hi2⟩, hzl, hB5r, hszr, hb9r, hrow, hsub, hsup⟩
    simp only at hi hi2 hzl hB5r hszr hb9r hrow hsub hsup
    have hb3r := blk_up hB5r hb35
    by_cases hi0 : 0 ≤ r
    · obtain ⟨_, _, _, _, _, hA2, _⟩ := consE hr2 0 (by omega)
      subst hA2
      obtain ⟨fB, fc, hall⟩ := consF hr2
      have hallr := cellsAt_up hB5r (hall r.toNat (by omega)).1
      obtain ⟨flat, hown, hel⟩ := hrow.own
      have hrq : 0 ≤ ((zs, D, dc, r) : List Con × Option Addr × Nat × Int).snd.snd.snd ∧ ((zs, D, dc, r) : List Con × Option Addr × Nat × Int).snd.snd.snd < ys.length := ⟨hi0, hi2⟩
      conv => whnf
      (repeat' (first | (refine wl_add rfl rfl rfl rfl rfl rfl (by omega) (by omega) (run_l tabOk ?_); conv => whnf) | (refine wl_sub rfl rfl rfl rfl rfl rfl (by omega) (by omega) (run_l tabOk ?_); conv => whnf) | (refine wl_cvA tabOk rfl rfl rfl (by simp only [inK]; omega) rfl rfl rfl (run_l tabOk ?_); conv => whnf) | (refine wl_cvB tabOk rfl rfl rfl rfl rfl rfl (run_l tabOk ?_); conv => whnf) | (refine wl_rem rfl rfl rfl rfl rfl rfl (by omega) (by omega) (fun r hr hr0 hr1 hr2 => run_l tabOk ?_); conv => whnf) | (refine wl_quo rfl rfl rfl rfl rfl rfl (by omega) (by omega) (by simp only [inK]; omega) (run_l tabOk ?_); conv => whnf) | (refine wl_mul rfl rfl rfl rfl rfl rfl (by omega) (by omega) (run_l tabOk ?_); conv => whnf) | (refine gs_dt (by first | assumption | omega) ?_; conv => whnf) | (refine gs_df (by first | assumption | omega) ?_; conv => whnf) | (refine gs_t (by assumption) ?_; conv => whnf) | (refine gs_f (by assumption) ?_; conv => whnf) | (refine gs_d (fun hg => ?_) (fun hg => ?_) <;> conv => whnf) | (refine gs_n (fun hg => ?_) (fun hg => ?_) <;> conv => whnf) | (refine gs_nb (fun hg => ?_) (fun hg => ?_) <;> conv => whnf) | (refine gs_b (fun hg => ?_) (fun hg => ?_) <;> conv => whnf) | refine fin1 rfl rfl ?_))
      refine wc_qx [0, 1, 2, 3, 4, 5, 6, 7, 8, 9, 10, 11] 1 13 (stable_Bw _) tabOk mixed (by kernel_rfl) (Below.refl _ _) ?_; (conv => whnf)
      (repeat' (first | (refine wq_Lg tabOk hb9r rfl rfl rfl rfl rfl rfl rfl (run_q tabOk ?_); conv => whnf) | (refine wq_Lg tabOk hb3r rfl rfl rfl rfl rfl rfl rfl (run_q tabOk ?_); conv => whnf) | (refine wq_X tabOk 46 4 rfl rfl rfl rfl rfl rfl rfl (by omega) (by omega) (run_q tabOk ?_); conv => whnf) | (refine wq_La tabOk hallr rfl rfl rfl rfl rfl rfl (run_q tabOk ?_); conv => whnf) | (refine wq_add rfl rfl rfl rfl rfl rfl (by omega) (by omega) (run_q tabOk ?_); conv => whnf) | (refine wq_sub rfl rfl rfl rfl rfl rfl (by omega) (by omega) (run_q tabOk ?_); conv => whnf) | (refine wq_cvA tabOk rfl rfl rfl (by simp only [inK]; omega) rfl rfl rfl (run_q tabOk ?_); conv => whnf) | (refine wq_cvB tabOk rfl rfl rfl rfl rfl rfl (run_q tabOk ?_); conv => whnf) | (refine wq_rem rfl rfl rfl rfl rfl rfl (by omega) (by omega) (fun r hr hr0 hr1 hr2 => run_q tabOk ?_); conv => whnf) | (refine wq_quo rfl rfl rfl rfl rfl rfl (by omega) (by omega) (by simp only [inK]; omega) (run_q tabOk ?_); conv => whnf) | (refine wq_mul rfl rfl rfl rfl rfl rfl (by omega) (by omega) (run_q tabOk ?_); conv => whnf) | (refine gs_dt (by first | assumption | omega) ?_; conv => whnf) | (refine gs_df (by first | assumption | omega) ?_; conv => whnf) | (refine gs_t (by assumption) ?_; conv => whnf) | (refine gs_f (by assumption) ?_; conv => whnf) | (refine gs_d (fun hg => ?_) (fun hg => ?_) <;> conv => whnf) | (refine gs_n (fun hg => ?_) (fun hg => ?_) <;> conv => whnf) | (refine gs_nb (fun hg => ?_) (fun hg => ?_) <;> conv => whnf) | (refine gs_b (fun hg => ?_) (fun hg => ?_) <;> conv => whnf)))
      intro W hC hBW
      conv => whnf
      refine And.intro ?_ True.intro
      conv => whnf
      refine wb_a (wa_bs tabOk 46 4 rfl rfl rfl rfl rfl rfl rfl rfl rfl ?_)
      intro gn W1 hn1
      refine ⟨bup hC hn1.below, fun W2 hB2 hC2 => ?_⟩
      have hBz := bup (bup hBW hn1.below) hB2
      have hbn := blk_up hB2 hn1.blk
      clear hC hn1
      conv => whnf
      refine wl_ap tabOk 46 4 48 (hown.kept (grown_of hBz) (Classical.em _)) hbn rfl rfl rfl rfl rfl rfl rfl rfl rfl rfl rfl rfl (by simp [Value.oneCell']) (by omega) (by omega) (by have := hBz.size; omega) ?_
      intro E ec u2 hown2 hg2 hob2
      refine run_l tabOk ?_
      conv => whnf
      have hgu : wr.grownBy u2 (Value.slice D zs.length dc).ownBlock := grown_trans (grown_of hBz) hg2
      have hb9u : u2.heap[g9]? = _ := (hgu.block g9 (blk_lt hb9r) (fun e => by have := (hown.lt g9 e.symm).1; omega)).trans hb9r
      refine wl_S (off := 2) (v := .slice E (zs.length + 2) ec) tabOk hb9u rfl rfl rfl rfl rfl rfl (by simp) rfl rfl ?_
      intro u3 hp3
      refine run_l tabOk ?_
      conv => whnf
      (repeat' (first | (refine wl_add rfl rfl rfl rfl rfl rfl (by omega) (by omega) (run_l tabOk ?_); conv => whnf) | (refine wl_sub rfl rfl rfl rfl rfl rfl (by omega) (by omega) (run_l tabOk ?_); conv => whnf) | (refine wl_cvA tabOk rfl rfl rfl (by simp only [inK]; omega) rfl rfl rfl (run_l tabOk ?_); conv => whnf) | (refine wl_cvB tabOk rfl rfl rfl rfl rfl rfl (run_l tabOk ?_); conv => whnf) | (refine wl_rem rfl rfl rfl rfl rfl rfl (by omega) (by omega) (fun r hr hr0 hr1 hr2 => run_l tabOk ?_); conv => whnf) | (refine wl_quo rfl rfl rfl rfl rfl rfl (by omega) (by omega) (by simp only [inK]; omega) (run_l tabOk ?_); conv => whnf) | (refine wl_mul rfl rfl rfl rfl rfl rfl (by omega) (by omega) (run_l tabOk ?_); conv => whnf) | (refine gs_dt (by first | assumption | omega) ?_; conv => whnf) | (refine gs_df (by first | assumption | omega) ?_; conv => whnf) | (refine gs_t (by assumption) ?_; conv => whnf) | (refine gs_f (by assumption) ?_; conv => whnf) | (refine gs_d (fun hg => ?_) (fun hg => ?_) <;> conv => whnf) | (refine gs_n (fun hg => ?_) (fun hg => ?_) <;> conv => whnf) | (refine gs_nb (fun hg => ?_) (fun hg => ?_) <;> conv => whnf) | (refine gs_b (fun hg => ?_) (fun hg => ?_) <;> conv => whnf) | refine fin1 rfl rfl ?_))
      have hZl : (zs ++ [ys[r.toNat]!, ys[r.toNat]!]).length = zs.length + 2 := by simp
      have hB2' : Below w5.heap.size w5 u2 := (bup hB5r hBz).grown hg2 (by have := hBz.size; have := hB5r.size; omega) (fun k hk => by have := (hown.lt k hk).1; have := hB58.size; omega)
      have hB3' : Below w5.heap.size w5 u3 := hp3.below hB2' hg9 hB2'.size
      have hr3 := (LRow.twice (y := ys[r.toNat]!) hel (hall r.toNat (by omega)).2 hown2).put hp3 hg9l
      rw [← hZl] at hr3
      have hb93 : u3.heap[g9]? = some (.cells #[.int .i64 n, .slice A1 xs.length c1, .slice E (zs ++ [ys[r.toNat]!, ys[r.toNat]!]).length ec] 29 (0, 0)) := by rw [hZl]; exact hp3.blk
      have hsz3 : w8.heap.size ≤ u3.heap.size := by rw [hp3.size]; have := hg2.size; have := hBz.size; omega
      exact ⟨(zs ++ [ys[r.toNat]!, ys[r.toNat]!], E, ec, r - 1), ⟨rfl, rfl, rfl, trivial⟩, ⟨by simp only; omega, by simp only [hZl]; omega, hB3', hsz3, hb93, hr3, fun q hq => by
        rcases List.mem_append.1 hq with hq | hq
        · exact hsub q hq
        · simp only [List.mem_cons, List.not_mem_nil, or_false, or_self] at hq
          rw [hq, getElem!_pos ys r.toNat (by omega)]
          exact List.getElem_mem _, fun j h1 h2 => by
        simp only at h1
        by_cases hji : r < j
        · exact List.mem_append.2 (.inl (hsup j hji h2))
        · have : r.toNat = j := by omega
          rw [this]
          exact List.mem_append.2 (.inr (by simp))⟩, by simp only; omega⟩
    · conv => whnf
      (repeat' (first | (refine wl_add rfl rfl rfl rfl rfl rfl (by omega) (by omega) (run_l tabOk ?_); conv => whnf) | (refine wl_sub rfl rfl rfl rfl rfl rfl (by omega) (by omega) (run_l tabOk ?_); conv => whnf) | (refine wl_cvA tabOk rfl rfl rfl (by simp only [inK]; omega) rfl rfl rfl (run_l tabOk ?_); conv => whnf) | (refine wl_cvB tabOk rfl rfl rfl rfl rfl rfl (run_l tabOk ?_); conv => whnf) | (refine wl_rem rfl rfl rfl rfl rfl rfl (by omega) (by omega) (fun r hr hr0 hr1 hr2 => run_l tabOk ?_); conv => whnf) | (refine wl_quo rfl rfl rfl rfl rfl rfl (by omega) (by omega) (by simp only [inK]; omega) (run_l tabOk ?_); conv => whnf) | (refine wl_mul rfl rfl rfl rfl rfl rfl (by omega) (by omega) (run_l tabOk ?_); conv => whnf) | (refine gs_dt (by first | assumption | omega) ?_; conv => whnf) | (refine gs_df (by first | assumption | omega) ?_; conv => whnf) | (refine gs_t (by assumption) ?_; conv => whnf) | (refine gs_f (by assumption) ?_; conv => whnf) | (refine gs_d (fun hg => ?_) (fun hg => ?_) <;> conv => whnf) | (refine gs_n (fun hg => ?_) (fun hg => ?_) <;> conv => whnf) | (refine gs_nb (fun hg => ?_) (fun hg => ?_) <;> conv => whnf) | (refine gs_b (fun hg => ?_) (fun hg => ?_) <;> conv => whnf) | refine fin1 rfl rfl ?_))
      exact ⟨rfl, (zs, D, dc), ⟨rfl, rfl, trivial⟩, hB5r, hb9r, hrow, by show zs.length ≤ 131072; omega, hsub, fun c hc => by
        obtain ⟨j, hj, e⟩ := List.getElem_of_mem hc
        have := hsup j (by omega) hj
        rw [getElem!_pos ys j hj, e] at this
        exact this⟩
  · clear hb9 hb3
    rintro ⟨zs, D, dc⟩ G wE ⟨hB5E, hb9, hrow, hzl, hsub, hsup⟩
    simp only at hb9 hrow hzl hsub hsup
    have hrz : RCons wE D zs := hrow.rowAt hB5E
    have hrightz := right_mem hright hsub hzl
    have hb3 := blk_up hB5E hb35
    have hr1 := hr1.up stays_Cell hB5E
    have hr2 := hr2.up stays_Con hB5E
    clear hrow hb35
    conv => whnf
    refine wc_qx [0, 2, 3, 4] 1 5 (stable_Bw _) tabOk mixed (by kernel_rfl) (Below.refl _ _) ?_; (conv => whnf)
    (repeat' (first | (refine wq_Lg tabOk hb3 rfl rfl rfl rfl rfl rfl rfl (run_q tabOk ?_); conv => whnf) | (refine wq_Lag tabOk hb3 rfl rfl rfl rfl rfl rfl (run_q tabOk ?_); conv => whnf) | (refine wq_add rfl rfl rfl rfl rfl rfl (by omega) (by omega) (run_q tabOk ?_); conv => whnf) | (refine wq_sub rfl rfl rfl rfl rfl rfl (by omega) (by omega) (run_q tabOk ?_); conv => whnf) | (refine wq_cvA tabOk rfl rfl rfl (by simp only [inK]; omega) rfl rfl rfl (run_q tabOk ?_); conv => whnf) | (refine wq_cvB tabOk rfl rfl rfl rfl rfl rfl (run_q tabOk ?_); conv => whnf) | (refine wq_rem rfl rfl rfl rfl rfl rfl (by omega) (by omega) (fun r hr hr0 hr1 hr2 => run_q tabOk ?_); conv => whnf) | (refine wq_quo rfl rfl rfl rfl rfl rfl (by omega) (by omega) (by simp only [inK]; omega) (run_q tabOk ?_); conv => whnf) | (refine wq_mul rfl rfl rfl rfl rfl rfl (by omega) (by omega) (run_q tabOk ?_); conv => whnf) | (refine gs_dt (by first | assumption | omega) ?_; conv => whnf) | (refine gs_df (by first | assumption | omega) ?_; conv => whnf) | (refine gs_t (by assumption) ?_; conv => whnf) | (refine gs_f (by assumption) ?_; conv => whnf) | (refine gs_d (fun hg => ?_) (fun hg => ?_) <;> conv => whnf) | (refine gs_n (fun hg => ?_) (fun hg => ?_) <;> conv => whnf) | (refine gs_nb (fun hg => ?_) (fun hg => ?_) <;> conv => whnf) | (refine gs_b (fun hg => ?_) (fun hg => ?_) <;> conv => whnf)))
    intro w10 _ hB10
    conv => whnf
    refine And.intro ?_ trivial
    conv => whnf
    refine wb_C fn17 (graphOfR n xs ys A1 A2 c1 c2 w10 (hr1.up stays_Cell hB10) (hr2.up stays_Con hB10) hright) rfl rfl rfl rfl rfl rfl ?_
    rintro _ w11 ⟨A', B', C', rfl, k1, k2, k3, hB11⟩
    refine ⟨_, rfl, bup hB10 hB11, fun w12 hB12 _ => ?_⟩
    conv => whnf
    have k1 := k1.up stays_Ints hB12
    have k2 := k2.up stays_Ints hB12
    have k3 := k3.up stays_B hB12
    refine wl_C fn16 (huLabelsR (n := n) (xs := xs) (ys := ys) A' B' C' w12 hright k1 k2 k3) rfl rfl rfl rfl rfl rfl rfl ?_
    rintro _ w13 ⟨go, hl, rfl, hrow, hcan, hB13⟩
    have hBB := bup (bup hB10 hB11) (bup hB12 hB13)
    have hr1 := hr1.up stays_Cell hBB
    have hr2 := hr2.up stays_Con hBB
    have hb3 := blk_up hBB hb3
    clear k1 k2 k3 hB10 hB11 hB12
    refine ⟨_, rfl, run_l tabOk ?_⟩
    conv => whnf
    have hrz := hrz.up stays_Con hBB
    have hb9 := blk_up hBB hb9
    have hB13 := bup hB5E hBB
    (repeat' (first | (refine wl_Lg tabOk hb3 rfl rfl rfl rfl rfl rfl rfl (run_l tabOk ?_); conv => whnf) | (refine wl_add rfl rfl rfl rfl rfl rfl (by omega) (by omega) (run_l tabOk ?_); conv => whnf) | (refine wl_sub rfl rfl rfl rfl rfl rfl (by omega) (by omega) (run_l tabOk ?_); conv => whnf) | (refine wl_cvA tabOk rfl rfl rfl (by simp only [inK]; omega) rfl rfl rfl (run_l tabOk ?_); conv => whnf) | (refine wl_cvB tabOk rfl rfl rfl rfl rfl rfl (run_l tabOk ?_); conv => whnf) | (refine wl_rem rfl rfl rfl rfl rfl rfl (by omega) (by omega) (fun r hr hr0 hr1 hr2 => run_l tabOk ?_); conv => whnf) | (refine wl_quo rfl rfl rfl rfl rfl rfl (by omega) (by omega) (by simp only [inK]; omega) (run_l tabOk ?_); conv => whnf) | (refine wl_mul rfl rfl rfl rfl rfl rfl (by omega) (by omega) (run_l tabOk ?_); conv => whnf) | (refine gs_dt (by first | assumption | omega) ?_; conv => whnf) | (refine gs_df (by first | assumption | omega) ?_; conv => whnf) | (refine gs_t (by assumption) ?_; conv => whnf) | (refine gs_f (by assumption) ?_; conv => whnf) | (refine gs_d (fun hg => ?_) (fun hg => ?_) <;> conv => whnf) | (refine gs_n (fun hg => ?_) (fun hg => ?_) <;> conv => whnf) | (refine gs_nb (fun hg => ?_) (fun hg => ?_) <;> conv => whnf) | (refine gs_b (fun hg => ?_) (fun hg => ?_) <;> conv => whnf) | refine fin1 rfl rfl ?_))
    refine wc_qx [0, 2, 3, 4] 1 5 (stable_Bw _) tabOk mixed (by kernel_rfl) (Below.refl _ _) ?_; (conv => whnf)
    (repeat' (first | (refine wq_Lg tabOk hb3 rfl rfl rfl rfl rfl rfl rfl (run_q tabOk ?_); conv => whnf) | (refine wq_Lg tabOk hb9 rfl rfl rfl rfl rfl rfl rfl (run_q tabOk ?_); conv => whnf) | (refine wq_Lag tabOk hb9 rfl rfl rfl rfl rfl rfl (run_q tabOk ?_); conv => whnf) | (refine wq_add rfl rfl rfl rfl rfl rfl (by omega) (by omega) (run_q tabOk ?_); conv => whnf) | (refine wq_sub rfl rfl rfl rfl rfl rfl (by omega) (by omega) (run_q tabOk ?_); conv => whnf) | (refine wq_cvA tabOk rfl rfl rfl (by simp only [inK]; omega) rfl rfl rfl (run_q tabOk ?_); conv => whnf) | (refine wq_cvB tabOk rfl rfl rfl rfl rfl rfl (run_q tabOk ?_); conv => whnf) | (refine wq_rem rfl rfl rfl rfl rfl rfl (by omega) (by omega) (fun r hr hr0 hr1 hr2 => run_q tabOk ?_); conv => whnf) | (refine wq_quo rfl rfl rfl rfl rfl rfl (by omega) (by omega) (by simp only [inK]; omega) (run_q tabOk ?_); conv => whnf) | (refine wq_mul rfl rfl rfl rfl rfl rfl (by omega) (by omega) (run_q tabOk ?_); conv => whnf) | (refine gs_dt (by first | assumption | omega) ?_; conv => whnf) | (refine gs_df (by first | assumption | omega) ?_; conv => whnf) | (refine gs_t (by assumption) ?_; conv => whnf) | (refine gs_f (by assumption) ?_; conv => whnf) | (refine gs_d (fun hg => ?_) (fun hg => ?_) <;> conv => whnf) | (refine gs_n (fun hg => ?_) (fun hg => ?_) <;> conv => whnf) | (refine gs_nb (fun hg => ?_) (fun hg => ?_) <;> conv => whnf) | (refine gs_b (fun hg => ?_) (fun hg => ?_) <;> conv => whnf)))
    intro w14 _ hB14
    conv => whnf
    refine And.intro ?_ trivial
    conv => whnf
    refine wb_C fn17 (graphOfR n xs zs A1 D c1 dc w14 (hr1.up stays_Cell hB14) (hrz.up stays_Con hB14) hrightz) rfl rfl rfl rfl rfl rfl ?_
    rintro _ w15 ⟨A', B', C', rfl, k1, k2, k3, hB15⟩
    refine ⟨_, rfl, bup hB14 hB15, fun w16 hB16 _ => ?_⟩
    conv => whnf
    have k1 := k1.up stays_Ints hB16
    have k2 := k2.up stays_Ints hB16
    have k3 := k3.up stays_B hB16
    refine wl_C fn16 (huLabelsR (n := n) (xs := xs) (ys := zs) A' B' C' w16 hrightz k1 k2 k3) rfl rfl rfl rfl rfl rfl rfl ?_
    rintro _ w17 ⟨go2, hl2, rfl, hrow2, hcan2, hB17⟩
    have hBB := bup (bup hB14 hB15) (bup hB16 hB17)
    have hr1 := hr1.up stays_Cell hBB
    have hr2 := hr2.up stays_Con hBB
    have hb3 := blk_up hBB hb3
    clear k1 k2 k3 hB14 hB15 hB16
    refine ⟨_, rfl, run_l tabOk ?_⟩
    conv => whnf
    have hcan2' : Canon n hl2 (SrcE n xs.length ⟨n, xs, ys⟩) (SrcZ n xs.length ⟨n, xs, ys⟩) := hcan2.imp (fun v u _ _ => forall_congr' fun j => iff_congr ⟨.mono hsub, .mono hsup⟩ ⟨.mono hsub, .mono hsup⟩) (fun v _ => forall_congr' fun j => not_congr ⟨.mono hsub, .mono hsup⟩)
    have heq := hcan.unique hcan2'
    have hBw : Below w.heap.size w w17 := bup hB05 (bup hB13 hBB)
    have rda : ∀ wi, Below w17.heap.size w17 wi → ∀ v, v < n → wi.cell? ((⟨go, 0, none⟩ : Addr).add (v * 1)) = some (.int .i64 (hl v)) := fun wi hb v hv => by
      rw [Nat.mul_one, add_zero]
      exact cell_up hb (cell_up hBB (cell_blk hrow (by simpa using fZ_get hv)))
    have rdb : ∀ wi, Below w17.heap.size w17 wi → ∀ v, v < n → wi.cell? ((⟨go2, 0, none⟩ : Addr).add (v * 1)) = some (.int .i64 (hl v)) := fun wi hb v hv => by
      rw [Nat.mul_one, add_zero, heq v hv]
      exact cell_up hb (cell_blk hrow2 (by simpa using fZ_get hv))
    clear hrow hcan hrow2 hcan2 hcan2' hr1 hr2 heq
    (repeat' (first | (refine wl_Lg tabOk hb3 rfl rfl rfl rfl rfl rfl rfl (run_l tabOk ?_); conv => whnf) | (refine wl_add rfl rfl rfl rfl rfl rfl (by omega) (by omega) (run_l tabOk ?_); conv => whnf) | (refine wl_sub rfl rfl rfl rfl rfl rfl (by omega) (by omega) (run_l tabOk ?_); conv => whnf) | (refine wl_cvA tabOk rfl rfl rfl (by simp only [inK]; omega) rfl rfl rfl (run_l tabOk ?_); conv => whnf) | (refine wl_cvB tabOk rfl rfl rfl rfl rfl rfl (run_l tabOk ?_); conv => whnf) | (refine wl_rem rfl rfl rfl rfl rfl rfl (by omega) (by omega) (fun r hr hr0 hr1 hr2 => run_l tabOk ?_); conv => whnf) | (refine wl_quo rfl rfl rfl rfl rfl rfl (by omega) (by omega) (by simp only [inK]; omega) (run_l tabOk ?_); conv => whnf) | (refine wl_mul rfl rfl rfl rfl rfl rfl (by omega) (by omega) (run_l tabOk ?_); conv => whnf) | (refine gs_dt (by first | assumption | omega) ?_; conv => whnf) | (refine gs_df (by first | assumption | omega) ?_; conv => whnf) | (refine gs_t (by assumption) ?_; conv => whnf) | (refine gs_f (by assumption) ?_; conv => whnf) | (refine gs_d (fun hg => ?_) (fun hg => ?_) <;> conv => whnf) | (refine gs_n (fun hg => ?_) (fun hg => ?_) <;> conv => whnf) | (refine gs_nb (fun hg => ?_) (fun hg => ?_) <;> conv => whnf) | (refine gs_b (fun hg => ?_) (fun hg => ?_) <;> conv => whnf) | refine fin1 rfl rfl ?_))
    refine lp_loop tabOk (X := Nat) (fun v => [(3, .pointer (some ⟨g3, 0, none⟩)), (6, .slice (some ⟨go, 0, none⟩) n n), (7, .slice (some ⟨go2, 0, none⟩) n n), (8, .int .i64 (v : Int))]) (fun v wi => v ≤ n ∧ Below w17.heap.size w17 wi) (fun v => n - v) 0 ⟨rfl, rfl, rfl, rfl, trivial⟩ ⟨by omega, Below.refl _ _⟩ ?_
    rintro v G2 wi ⟨hv, hBi⟩
    have hb3i := blk_up hBi hb3
    by_cases hvn : v < n
    · have ca := rda wi hBi v hvn
      have cb := rdb wi hBi v hvn
      conv => whnf
      (repeat' (first | (refine wl_Lg tabOk hb3i rfl rfl rfl rfl rfl rfl rfl (run_l tabOk ?_); conv => whnf) | (refine wl_add rfl rfl rfl rfl rfl rfl (by omega) (by omega) (run_l tabOk ?_); conv => whnf) | (refine wl_sub rfl rfl rfl rfl rfl rfl (by omega) (by omega) (run_l tabOk ?_); conv => whnf) | (refine wl_cvA tabOk rfl rfl rfl (by simp only [inK]; omega) rfl rfl rfl (run_l tabOk ?_); conv => whnf) | (refine wl_cvB tabOk rfl rfl rfl rfl rfl rfl (run_l tabOk ?_); conv => whnf) | (refine wl_rem rfl rfl rfl rfl rfl rfl (by omega) (by omega) (fun r hr hr0 hr1 hr2 => run_l tabOk ?_); conv => whnf) | (refine wl_quo rfl rfl rfl rfl rfl rfl (by omega) (by omega) (by simp only [inK]; omega) (run_l tabOk ?_); conv => whnf) | (refine wl_mul rfl rfl rfl rfl rfl rfl (by omega) (by omega) (run_l tabOk ?_); conv => whnf) | (refine gs_dt (by first | assumption | omega) ?_; conv => whnf) | (refine gs_df (by first | assumption | omega) ?_; conv => whnf) | (refine gs_t (by assumption) ?_; conv => whnf) | (refine gs_f (by assumption) ?_; conv => whnf) | (refine gs_d (fun hg => ?_) (fun hg => ?_) <;> conv => whnf) | (refine gs_n (fun hg => ?_) (fun hg => ?_) <;> conv => whnf) | (refine gs_nb (fun hg => ?_) (fun hg => ?_) <;> conv => whnf) | (refine gs_b (fun hg => ?_) (fun hg => ?_) <;> conv => whnf) | refine fin1 rfl rfl ?_))
      refine wc_qr tabOk mixed (by kernel_rfl) ?_; conv => whnf
      (repeat' (first | (refine wq_L tabOk rfl rfl rfl rfl rfl rfl ca (run_q tabOk ?_); conv => whnf) | (refine wq_L tabOk rfl rfl rfl rfl rfl rfl cb (run_q tabOk ?_); conv => whnf) | (refine wq_Xn tabOk 3 1 rfl rfl rfl rfl rfl rfl rfl (by omega) (run_q tabOk ?_); conv => whnf) | (refine wq_add rfl rfl rfl rfl rfl rfl (by omega) (by omega) (run_q tabOk ?_); conv => whnf) | (refine wq_sub rfl rfl rfl rfl rfl rfl (by omega) (by omega) (run_q tabOk ?_); conv => whnf) | (refine wq_cvA tabOk rfl rfl rfl (by simp only [inK]; omega) rfl rfl rfl (run_q tabOk ?_); conv => whnf) | (refine wq_cvB tabOk rfl rfl rfl rfl rfl rfl (run_q tabOk ?_); conv => whnf) | (refine wq_rem rfl rfl rfl rfl rfl rfl (by omega) (by omega) (fun r hr hr0 hr1 hr2 => run_q tabOk ?_); conv => whnf) | (refine wq_quo rfl rfl rfl rfl rfl rfl (by omega) (by omega) (by simp only [inK]; omega) (run_q tabOk ?_); conv => whnf) | (refine wq_mul rfl rfl rfl rfl rfl rfl (by omega) (by omega) (run_q tabOk ?_); conv => whnf) | (refine gs_dt (by first | assumption | omega) ?_; conv => whnf) | (refine gs_df (by first | assumption | omega) ?_; conv => whnf) | (refine gs_t (by assumption) ?_; conv => whnf) | (refine gs_f (by assumption) ?_; conv => whnf) | (refine gs_d (fun hg => ?_) (fun hg => ?_) <;> conv => whnf) | (refine gs_n (fun hg => ?_) (fun hg => ?_) <;> conv => whnf) | (refine gs_nb (fun hg => ?_) (fun hg => ?_) <;> conv => whnf) | (refine gs_b (fun hg => ?_) (fun hg => ?_) <;> conv => whnf)))
      intro w18 hB18
      conv => whnf
      (repeat' (first | (refine wl_add rfl rfl rfl rfl rfl rfl (by omega) (by omega) (run_l tabOk ?_); conv => whnf) | (refine wl_sub rfl rfl rfl rfl rfl rfl (by omega) (by omega) (run_l tabOk ?_); conv => whnf) | (refine wl_cvA tabOk rfl rfl rfl (by simp only [inK]; omega) rfl rfl rfl (run_l tabOk ?_); conv => whnf) | (refine wl_cvB tabOk rfl rfl rfl rfl rfl rfl (run_l tabOk ?_); conv => whnf) | (refine wl_rem rfl rfl rfl rfl rfl rfl (by omega) (by omega) (fun r hr hr0 hr1 hr2 => run_l tabOk ?_); conv => whnf) | (refine wl_quo rfl rfl rfl rfl rfl rfl (by omega) (by omega) (by simp only [inK]; omega) (run_l tabOk ?_); conv => whnf) | (refine wl_mul rfl rfl rfl rfl rfl rfl (by omega) (by omega) (run_l tabOk ?_); conv => whnf) | (refine gs_dt (by first | assumption | omega) ?_; conv => whnf) | (refine gs_df (by first | assumption | omega) ?_; conv => whnf) | (refine gs_t (by assumption) ?_; conv => whnf) | (refine gs_f (by assumption) ?_; conv => whnf) | (refine gs_d (fun hg => ?_) (fun hg => ?_) <;> conv => whnf) | (refine gs_n (fun hg => ?_) (fun hg => ?_) <;> conv => whnf) | (refine gs_nb (fun hg => ?_) (fun hg => ?_) <;> conv => whnf) | (refine gs_b (fun hg => ?_) (fun hg => ?_) <;> conv => whnf) | refine fin1 rfl rfl ?_))
      exact ⟨v + 1, ⟨rfl, rfl, rfl, rfl, trivial⟩, ⟨by omega, bup hBi hB18⟩, by omega⟩
    · conv => whnf
      (repeat' (first | (refine wl_Lg tabOk hb3i rfl rfl rfl rfl rfl rfl rfl (run_l tabOk ?_); conv => whnf) | (refine wl_add rfl rfl rfl rfl rfl rfl (by omega) (by omega) (run_l tabOk ?_); conv => whnf) | (refine wl_sub rfl rfl rfl rfl rfl rfl (by omega) (by omega) (run_l tabOk ?_); conv => whnf) | (refine wl_cvA tabOk rfl rfl rfl (by simp only [inK]; omega) rfl rfl rfl (run_l tabOk ?_); conv => whnf) | (refine wl_cvB tabOk rfl rfl rfl rfl rfl rfl (run_l tabOk ?_); conv => whnf) | (refine wl_rem rfl rfl rfl rfl rfl rfl (by omega) (by omega) (fun r hr hr0 hr1 hr2 => run_l tabOk ?_); conv => whnf) | (refine wl_quo rfl rfl rfl rfl rfl rfl (by omega) (by omega) (by simp only [inK]; omega) (run_l tabOk ?_); conv => whnf) | (refine wl_mul rfl rfl rfl rfl rfl rfl (by omega) (by omega) (run_l tabOk ?_); conv => whnf) | (refine gs_dt (by first | assumption | omega) ?_; conv => whnf) | (refine gs_df (by first | assumption | omega) ?_; conv => whnf) | (refine gs_t (by assumption) ?_; conv => whnf) | (refine gs_f (by assumption) ?_; conv => whnf) | (refine gs_d (fun hg => ?_) (fun hg => ?_) <;> conv => whnf) | (refine gs_n (fun hg => ?_) (fun hg => ?_) <;> conv => whnf) | (refine gs_nb (fun hg => ?_) (fun hg => ?_) <;> conv => whnf) | (refine gs_b (fun hg => ?_) (fun hg => ?_) <;> conv => whnf) | refine fin1 rfl rfl ?_))
      exact ⟨rfl, bup hBw hBi⟩
end Go.Proofs.Ytjggjhgbobmkhaa
