/- Several texts of one claim in one file: SH19. -/
import Derived.Test.YtjggjhgbobmkhaaY17
import Derived.Test.YtjggjhgbobmkhaaY5
/- What shrink.apply calls: a constraint's key, whether it says nothing, where variables are. -/
namespace Go.Proofs.Ytjggjhgbobmkhaa
open Go.RowKit
set_option linter.unusedVariables false
set_option linter.unusedSimpArgs false
set_option maxRecDepth 100000
section
variable {P : Program} {T : Nat → Option TI} {n : Nat} {F : Fm} {w : World} {o : Oper} {K : Fm → World → Prop}
/-- A function value that has captured variables is called, in a drawn region. -/
theorem wb_CF {f : FuncId} {c : Call} {x : Operand} {first args caps : List Value} {R : Ending → World → Prop} (hf : FnOk P f) (hc : Calls P f (first ++ args ++ caps).toArray w R) (hop : o.op = .call c) (hcal : c.callee = .value x) (hx : ev F x = .func (.func f) first.toArray caps.toArray) (hargs : c.args.toList.map (ev F) = args) {d : Nat} (hd : o.dst = some d) (hn : Nat.blt d n = true)
    (k : ∀ e w1, R e w1 → ∃ v, e = .returned v ∧ K (upd F d v) w1) : wb P n o F w K := by
  refine ⟨dst_some hd hn, .inr (.inl ⟨f, (first ++ args ++ caps).toArray, ?_, hc.mono fun e w' h => by rw [hd]; exact k e w' h⟩)⟩
  have : c.args.map (ev F) = args.toArray := Array.toList_inj.1 (by rw [Array.toList_map, hargs])
  have e : (first ++ args ++ caps).toArray = first.toArray ++ args.toArray ++ caps.toArray := by simp
  rw [e]
  simp [execOp, hop, resolve, hcal, hx, Deferred.ofValue, this, invoke, run_callFunc hf]
end
theorem Elems.appK {α : Type} [Inhabited α] {sz : Nat} {d : Dec α} {w : World} {f1 f2 : List Value} {xs ys : List α} (h : Elems sz d w f1 xs) (h2 : Elems sz d w f2 ys) : Elems sz d w (f1 ++ f2) (xs ++ ys) := by
  refine ⟨by simp [h.1, h2.1, Nat.add_mul], fun i hi => ?_⟩
  rw [List.length_append] at hi
  rcases Nat.lt_or_ge i xs.length with hl | hl
  · have h1 : i * sz + sz ≤ f1.length := by rw [h.1, ← Nat.succ_mul]; exact Nat.mul_le_mul_right _ hl
    rw [List.drop_append_of_le_length (by omega), List.take_append_of_le_length (by rw [List.length_drop]; omega), getElem!_pos _ i (by simp; omega), List.getElem_append_left hl]
    have := h.2 i hl
    rwa [getElem!_pos xs i hl] at this
  · obtain ⟨j, rfl⟩ : ∃ j, i = xs.length + j := ⟨i - xs.length, by omega⟩
    rw [Nat.add_mul, ← h.1, ← List.drop_drop, List.drop_left, getElem!_pos _ _ (by simp; omega), List.getElem_append_right (by omega)]
    have := h2.2 j (by omega)
    rw [getElem!_pos ys j (by omega)] at this
    simpa using this
theorem own_typK {w : World} {base sz n : Nat} {e : TypeId} {v : Value} {flat : List Value} (h : w.ownsRow base e sz v n flat) {b : Nat} (hb : v.ownBlock = some b) : ∃ cur, w.heap[b]? = some (.cells cur e (0, 0)) := by
  rcases h.2 with ⟨q3, _⟩ | ⟨g', cap, cur, q3, _, q4, _⟩
  · rw [q3] at hb
    cases hb
  · rw [q3] at hb
    have hb : g' = b := by simpa [Value.ownBlock] using hb
    subst hb
    exact ⟨_, q4⟩
theorem own_apartK {w : World} {b1 b2 s1 s2 n1 n2 : Nat} {e1 e2 : TypeId} {v1 v2 : Value} {f1 f2 : List Value} (h : w.ownsRow b1 e1 s1 v1 n1 f1) (k : w.ownsRow b2 e2 s2 v2 n2 f2) (he : e1 ≠ e2) : v1.ownBlock = none ∨ v1.ownBlock ≠ v2.ownBlock := by
  cases hv : v1.ownBlock with
  | none => exact .inl rfl
  | some b =>
    refine .inr fun hb2 => ?_
    obtain ⟨c1, h1⟩ := own_typK h hv
    obtain ⟨c2, h2⟩ := own_typK k hb2.symm
    rw [h1] at h2
    simp only [Option.some.injEq, Obj.cells.injEq] at h2
    exact he h2.2.1
theorem u8w (x : Int) : IntKind.u8.wrap x = (((x % 256).toNat : Nat) : Int) := by
  have h : IntKind.u8.wrap x = x % 256 := by simp [IntKind.wrap, IntKind.signed, IntKind.bits]
  rw [h]
  omega
theorem own_push3 {w : World} {base : Nat} {e : TypeId} {A : Option Addr} {c : Nat} {l m : List Nat} (hm : m.length = 3) (h : w.ownsRow base e 1 (.slice A (l.length + 3) c) (l.length + 3) (l.map byV ++ m.map byV)) : w.ownsRow base e 1 (.slice A (l ++ m).length c) (l ++ m).length ((l ++ m).map byV) := by
  have e1 : (l ++ m).length = l.length + 3 := by rw [List.length_append, hm]
  rw [e1, List.map_append]
  exact h
theorem take_key (l : List Int) {i : Nat} (hi : i < l.length) : (l.take (i + 1)).flatMap key3 = (l.take i).flatMap key3 ++ key3 l[i]! := by
  rw [List.take_add_one, List.getElem?_eq_getElem hi, getElem!_pos l i hi, Option.toList_some, List.flatMap_append]
  simp
set_option maxHeartbeats 8000000 in
theorem shKey (c : Con) (B : Option Addr) (cc : Nat) (w : World) (hk : 1 ≤ c.k ∧ c.k ≤ 5) (ha : -9223372036854775808 ≤ c.a ∧ c.a ≤ 9223372036854775807) (hb : -9223372036854775808 ≤ c.b ∧ c.b ≤ 9223372036854775807) (hargs : RI w B c.args) (hl : c.args.length ≤ 6) :
    Calls Try.prog 58 #[.agg #[.int .u8 c.k, .int .i64 c.a, .int .i64 c.b, .slice B c.args.length cc]] w fun e w' => e = .returned (.string (strB (keyC c))) ∧ Below w.heap.size w w' := by
  obtain ⟨kn, hkn⟩ := Int.eq_ofNat_of_zero_le (show 0 ≤ c.k by omega)
  rw [hkn]
  refine enterR (args := [.agg #[.int .u8 (kn : Int), .int .i64 c.a, .int .i64 c.b, .slice B c.args.length cc]]) tabOk Try.func58 rfl Try.ntmps58 rfl ?_; conv => whnf
  refine wl_box rfl rfl rfl rfl rfl rfl ?_
  intro g1 w1 hn1
  have hb1 := hn1.blk
  refine run_l tabOk ?_
  conv => whnf
  (repeat' (first | (refine wl_Lg tabOk hb1 rfl rfl rfl rfl rfl rfl rfl (run_l tabOk ?_); conv => whnf) | ((first | refine wl_add rfl rfl rfl rfl rfl rfl (by omega) (by omega) (run_l tabOk ?_) | refine wl_sub rfl rfl rfl rfl rfl rfl (by omega) (by omega) (run_l tabOk ?_) | refine wl_cvA tabOk rfl rfl rfl (by simp only [inK]; omega) rfl rfl rfl (run_l tabOk ?_) | refine wl_cvB tabOk rfl rfl rfl rfl rfl rfl (run_l tabOk ?_) | refine wl_rem rfl rfl rfl rfl rfl rfl (by omega) (by omega) (fun r hr hr0 hr1 hr2 => run_l tabOk ?_) | refine wl_quo rfl rfl rfl rfl rfl rfl (by omega) (by omega) (by simp only [inK]; omega) (run_l tabOk ?_) | refine wl_mul rfl rfl rfl rfl rfl rfl (by omega) (by omega) (run_l tabOk ?_) | refine gs_dt (by first | assumption | omega) ?_ | refine gs_df (by first | assumption | omega) ?_ | refine gs_t (by assumption) ?_ | refine gs_f (by assumption) ?_ | refine gs_d (fun hg => ?_) (fun hg => ?_) | refine gs_n (fun hg => ?_) (fun hg => ?_) | refine gs_nb (fun hg => ?_) (fun hg => ?_) | refine gs_b (fun hg => ?_) (fun hg => ?_)) <;> conv => whnf) | refine fin1 rfl rfl ?_))
  refine wl_bs tabOk 5 1 rfl rfl rfl rfl rfl rfl rfl rfl rfl rfl ?_
  intro g2 w2 hn2
  have hb12 := blk_up hn2.below hb1
  refine run_l tabOk ?_
  conv => whnf
  (repeat' (first | (refine wl_Lg tabOk hb12 rfl rfl rfl rfl rfl rfl rfl (run_l tabOk ?_); conv => whnf) | ((first | refine wl_add rfl rfl rfl rfl rfl rfl (by omega) (by omega) (run_l tabOk ?_) | refine wl_sub rfl rfl rfl rfl rfl rfl (by omega) (by omega) (run_l tabOk ?_) | refine wl_cvA tabOk rfl rfl rfl (by simp only [inK]; omega) rfl rfl rfl (run_l tabOk ?_) | refine wl_cvB tabOk rfl rfl rfl rfl rfl rfl (run_l tabOk ?_) | refine wl_rem rfl rfl rfl rfl rfl rfl (by omega) (by omega) (fun r hr hr0 hr1 hr2 => run_l tabOk ?_) | refine wl_quo rfl rfl rfl rfl rfl rfl (by omega) (by omega) (by simp only [inK]; omega) (run_l tabOk ?_) | refine wl_mul rfl rfl rfl rfl rfl rfl (by omega) (by omega) (run_l tabOk ?_) | refine gs_dt (by first | assumption | omega) ?_ | refine gs_df (by first | assumption | omega) ?_ | refine gs_t (by assumption) ?_ | refine gs_f (by assumption) ?_ | refine gs_d (fun hg => ?_) (fun hg => ?_) | refine gs_n (fun hg => ?_) (fun hg => ?_) | refine gs_nb (fun hg => ?_) (fun hg => ?_) | refine gs_b (fun hg => ?_) (fun hg => ?_)) <;> conv => whnf) | refine fin1 rfl rfl ?_))
  refine wl_bs tabOk 3 1 rfl rfl rfl rfl rfl rfl rfl rfl rfl rfl ?_
  intro g3 w3 hn3
  have hb13 := blk_up hn3.below hb12
  refine run_l tabOk ?_
  conv => whnf
  (repeat' (first | (refine wl_Lg tabOk hb13 rfl rfl rfl rfl rfl rfl rfl (run_l tabOk ?_); conv => whnf) | ((first | refine wl_add rfl rfl rfl rfl rfl rfl (by omega) (by omega) (run_l tabOk ?_) | refine wl_sub rfl rfl rfl rfl rfl rfl (by omega) (by omega) (run_l tabOk ?_) | refine wl_cvA tabOk rfl rfl rfl (by simp only [inK]; omega) rfl rfl rfl (run_l tabOk ?_) | refine wl_cvB tabOk rfl rfl rfl rfl rfl rfl (run_l tabOk ?_) | refine wl_rem rfl rfl rfl rfl rfl rfl (by omega) (by omega) (fun r hr hr0 hr1 hr2 => run_l tabOk ?_) | refine wl_quo rfl rfl rfl rfl rfl rfl (by omega) (by omega) (by simp only [inK]; omega) (run_l tabOk ?_) | refine wl_mul rfl rfl rfl rfl rfl rfl (by omega) (by omega) (run_l tabOk ?_) | refine gs_dt (by first | assumption | omega) ?_ | refine gs_df (by first | assumption | omega) ?_ | refine gs_t (by assumption) ?_ | refine gs_f (by assumption) ?_ | refine gs_d (fun hg => ?_) (fun hg => ?_) | refine gs_n (fun hg => ?_) (fun hg => ?_) | refine gs_nb (fun hg => ?_) (fun hg => ?_) | refine gs_b (fun hg => ?_) (fun hg => ?_)) <;> conv => whnf) | refine fin1 rfl rfl ?_))
  have hB03 := bup (bup hn1.below hn2.below) hn3.below
  have hp0 : w3.ownsRow w.heap.size 5 1 (.slice (some ⟨g2, 0, none⟩) [kn].length 1) [kn].length ([kn].map byV) := ⟨rfl, .inr ⟨g2, 1, _, rfl, by have := hn2.at_; have := hn1.size; omega, blk_up hn3.below hn2.blk, by simp, by decide, rfl, rfl⟩⟩
  have ho2 : w3.ownsRow w2.heap.size 3 1 (.slice (some ⟨g3, 0, none⟩) 2 2) 2 [.int .i64 c.a, .int .i64 c.b] := ⟨rfl, .inr ⟨g3, 2, _, rfl, by have := hn3.at_; omega, hn3.blk, by omega, by decide, rfl, rfl⟩⟩
  have hg2 : g2 < w2.heap.size := blk_lt hn2.blk
  refine wl_apr tabOk 3 1 8 ho2 (hargs.up (stays_I _) hB03) (one_I _) rfl rfl rfl rfl rfl rfl rfl rfl rfl rfl rfl (by omega) (by omega) (by have := hn3.size; omega) ?_
  intro D dc w4 news hel hown hgr hob
  obtain ⟨L, hL⟩ : ∃ L, L = [c.a, c.b] ++ c.args := ⟨_, rfl⟩
  have hLl : L.length = 2 + c.args.length := by rw [hL]; simp; omega
  rw [← hLl] at hown
  have hel2 : ∀ w' : World, Elems 1 (dI .i64) w' ([.int .i64 c.a, .int .i64 c.b] ++ news) L := fun w' => by
    have e0 : Elems 1 (dI .i64) w' [.int .i64 c.a, .int .i64 c.b] [c.a, c.b] := (Elems.one (d := dI .i64) rfl ⟨rfl, ha⟩).push (cs := [.int .i64 c.b]) rfl ⟨rfl, hb⟩
    rw [hL]
    exact e0.appK ⟨hel.1, fun i hi => hel.2 i hi⟩
  obtain ⟨flatL, hfl⟩ : ∃ f, f = [.int .i64 c.a, .int .i64 c.b] ++ news := ⟨_, rfl⟩
  rw [← hfl] at hown hel2
  have hB04 : Below w.heap.size w w4 := hB03.grown hgr hB03.size (fun k hk => by have := (ho2.lt k hk).1; have := (bup hn1.below hn2.below).size; omega)
  have hp4 : w4.ownsRow w.heap.size 5 1 (.slice (some ⟨g2, 0, none⟩) [kn].length 1) [kn].length ([kn].map byV) := hp0.kept hgr (.inr fun e => by
    have e : some g2 = (Value.slice (some ⟨g3, 0, none⟩) 2 2).ownBlock := e
    have := (ho2.lt g2 e.symm).1
    omega)
  clear hn1 hn2 hn3 hb1 hb12 hb13 hp0 ho2 hel hgr hob hB03 hfl
  refine run_l tabOk ?_
  rw [← hLl]
  conv => whnf
  (repeat' (first | ((first | refine wl_add rfl rfl rfl rfl rfl rfl (by omega) (by omega) (run_l tabOk ?_) | refine wl_sub rfl rfl rfl rfl rfl rfl (by omega) (by omega) (run_l tabOk ?_) | refine wl_cvA tabOk rfl rfl rfl (by simp only [inK]; omega) rfl rfl rfl (run_l tabOk ?_) | refine wl_cvB tabOk rfl rfl rfl rfl rfl rfl (run_l tabOk ?_) | refine wl_rem rfl rfl rfl rfl rfl rfl (by omega) (by omega) (fun r hr hr0 hr1 hr2 => run_l tabOk ?_) | refine wl_quo rfl rfl rfl rfl rfl rfl (by omega) (by omega) (by simp only [inK]; omega) (run_l tabOk ?_) | refine wl_mul rfl rfl rfl rfl rfl rfl (by omega) (by omega) (run_l tabOk ?_) | refine gs_dt (by first | assumption | omega) ?_ | refine gs_df (by first | assumption | omega) ?_ | refine gs_t (by assumption) ?_ | refine gs_f (by assumption) ?_ | refine gs_d (fun hg => ?_) (fun hg => ?_) | refine gs_n (fun hg => ?_) (fun hg => ?_) | refine gs_nb (fun hg => ?_) (fun hg => ?_) | refine gs_b (fun hg => ?_) (fun hg => ?_)) <;> conv => whnf) | refine fin1 rfl rfl ?_))
  refine lp_loop tabOk (X := Nat × Option Addr × Nat) (fun x => [(3, .slice x.2.1 (kn :: (L.take x.1).flatMap key3).length x.2.2), (16, .slice D L.length dc), (17, .int .i64 L.length), (18, .int .i64 x.1)])
    (fun x wr => x.1 ≤ L.length ∧ (Below w.heap.size w wr ∧ wr.ownsRow w2.heap.size 3 1 (.slice D L.length dc) L.length flatL) ∧ wr.ownsRow w.heap.size 5 1 (.slice x.2.1 (kn :: (L.take x.1).flatMap key3).length x.2.2) (kn :: (L.take x.1).flatMap key3).length ((kn :: (L.take x.1).flatMap key3).map byV)) (fun x => L.length - x.1) (0, some ⟨g2, 0, none⟩, 1) ⟨rfl, rfl, rfl, rfl, trivial⟩ ⟨by simp, ⟨hB04, hown⟩, hp4⟩ ?_
  clear hB04 hown hp4
  rintro ⟨i, E, ec⟩ G wr ⟨hi, ⟨hB0r, hLo⟩, hp⟩
  simp only at hi hp
  have hrow : RI wr D L := by
    obtain ⟨A', c', q1, _, q2⟩ := row_of_own hLo rfl (hel2 wr)
    injection q1 with q1 _ _
    subst q1
    exact q2
  by_cases hil : i < L.length
  · obtain ⟨y, ad3, ⟨hy⟩, e3, hyc, hy1, hy2⟩ := intsE hrow i hil
    subst e3
    have htk := take_key L hil
    rw [hy] at htk
    obtain ⟨pre, hpre⟩ : ∃ p, p = kn :: (L.take i).flatMap key3 := ⟨_, rfl⟩
    have hnx : kn :: (L.take (i + 1)).flatMap key3 = pre ++ key3 y := by rw [htk, hpre]; rfl
    have hpl : pre.length ≤ 100 := by
      rw [hpre, List.length_cons, keys_len, List.length_take]
      omega
    rw [← hpre] at hp ⊢
    conv => whnf
    (repeat' (first | (refine wl_L tabOk rfl rfl rfl rfl rfl rfl hyc (run_l tabOk ?_); conv => whnf) | (refine wl_Xn tabOk 3 1 rfl rfl rfl rfl rfl rfl rfl (by omega) (run_l tabOk ?_); conv => whnf) | (refine wl_shr (a := y) (b := 8) (r := y / 256) (by simp [IntKind.bits]) rfl rfl rfl (by omega) rfl rfl rfl (run_l tabOk ?_); (conv => whnf)) | (refine wl_shr (a := y) (b := 16) (r := y / 65536) (by simp [IntKind.bits]) rfl rfl rfl (by omega) rfl rfl rfl (run_l tabOk ?_); (conv => whnf)) | ((first | refine wl_add rfl rfl rfl rfl rfl rfl (by omega) (by omega) (run_l tabOk ?_) | refine wl_sub rfl rfl rfl rfl rfl rfl (by omega) (by omega) (run_l tabOk ?_) | refine wl_cvA tabOk rfl rfl rfl (by simp only [inK]; omega) rfl rfl rfl (run_l tabOk ?_) | refine wl_cvB tabOk rfl rfl rfl rfl rfl rfl (run_l tabOk ?_) | refine wl_rem rfl rfl rfl rfl rfl rfl (by omega) (by omega) (fun r hr hr0 hr1 hr2 => run_l tabOk ?_) | refine wl_quo rfl rfl rfl rfl rfl rfl (by omega) (by omega) (by simp only [inK]; omega) (run_l tabOk ?_) | refine wl_mul rfl rfl rfl rfl rfl rfl (by omega) (by omega) (run_l tabOk ?_) | refine gs_dt (by first | assumption | omega) ?_ | refine gs_df (by first | assumption | omega) ?_ | refine gs_t (by assumption) ?_ | refine gs_f (by assumption) ?_ | refine gs_d (fun hg => ?_) (fun hg => ?_) | refine gs_n (fun hg => ?_) (fun hg => ?_) | refine gs_nb (fun hg => ?_) (fun hg => ?_) | refine gs_b (fun hg => ?_) (fun hg => ?_)) <;> conv => whnf) | refine fin1 rfl rfl ?_))
    rw [u8w, u8w, u8w]
    refine wl_bs tabOk 5 1 rfl rfl rfl rfl rfl rfl rfl rfl rfl rfl ?_
    intro g8 u1 hn8
    refine run_l tabOk ?_
    conv => whnf
    have hpu := hp.kept (grown_of (row := none) hn8.below) (Classical.em _)
    refine wl_ap tabOk 5 1 1 hpu hn8.blk rfl rfl rfl rfl rfl rfl rfl rfl rfl rfl rfl rfl (by simp [Value.oneCell']) (by omega) (by omega) (by have := hn8.size; have := hB0r.size; omega) ?_
    intro A7 cap7 u2 hown hgr hob
    have hpush := own_push3 (m := key3 y) rfl hown
    have hBu : Below w.heap.size w u2 := (bup hB0r hn8.below).grown hgr (bup hB0r hn8.below).size (fun k e => (hpu.lt k e).1)
    have hLu := (hLo.kept (grown_of (row := none) hn8.below) (Classical.em _))
    have hLu2 := hLu.kept hgr (own_apartK hLu hpu (by decide))
    refine run_l tabOk ?_
    conv => whnf
    (repeat' (first | ((first | refine wl_add rfl rfl rfl rfl rfl rfl (by omega) (by omega) (run_l tabOk ?_) | refine wl_sub rfl rfl rfl rfl rfl rfl (by omega) (by omega) (run_l tabOk ?_) | refine wl_cvA tabOk rfl rfl rfl (by simp only [inK]; omega) rfl rfl rfl (run_l tabOk ?_) | refine wl_cvB tabOk rfl rfl rfl rfl rfl rfl (run_l tabOk ?_) | refine wl_rem rfl rfl rfl rfl rfl rfl (by omega) (by omega) (fun r hr hr0 hr1 hr2 => run_l tabOk ?_) | refine wl_quo rfl rfl rfl rfl rfl rfl (by omega) (by omega) (by simp only [inK]; omega) (run_l tabOk ?_) | refine wl_mul rfl rfl rfl rfl rfl rfl (by omega) (by omega) (run_l tabOk ?_) | refine gs_dt (by first | assumption | omega) ?_ | refine gs_df (by first | assumption | omega) ?_ | refine gs_t (by assumption) ?_ | refine gs_f (by assumption) ?_ | refine gs_d (fun hg => ?_) (fun hg => ?_) | refine gs_n (fun hg => ?_) (fun hg => ?_) | refine gs_nb (fun hg => ?_) (fun hg => ?_) | refine gs_b (fun hg => ?_) (fun hg => ?_)) <;> conv => whnf) | refine fin1 rfl rfl ?_))
    have el : pre.length + 3 = (kn :: (L.take (i + 1)).flatMap key3).length := by rw [hnx, List.length_append]; rfl
    refine ⟨(i + 1, A7, cap7), ⟨congrArg (fun z => Value.slice A7 z cap7) el, rfl, rfl, rfl, trivial⟩, ⟨by simp only; omega, ⟨hBu, hLu2⟩, ?_⟩, by simp only; omega⟩
    simp only
    rw [hnx]
    exact hpush
  · have hil2 : i = L.length := by omega
    have hkc : kn :: (L.take i).flatMap key3 = keyC c := by
      unfold keyC
      rw [hkn, Int.toNat_natCast, hil2, List.take_length, hL]
    rw [hkc] at hp ⊢
    conv => whnf
    (repeat' (first | ((first | refine wl_add rfl rfl rfl rfl rfl rfl (by omega) (by omega) (run_l tabOk ?_) | refine wl_sub rfl rfl rfl rfl rfl rfl (by omega) (by omega) (run_l tabOk ?_) | refine wl_cvA tabOk rfl rfl rfl (by simp only [inK]; omega) rfl rfl rfl (run_l tabOk ?_) | refine wl_cvB tabOk rfl rfl rfl rfl rfl rfl (run_l tabOk ?_) | refine wl_rem rfl rfl rfl rfl rfl rfl (by omega) (by omega) (fun r hr hr0 hr1 hr2 => run_l tabOk ?_) | refine wl_quo rfl rfl rfl rfl rfl rfl (by omega) (by omega) (by simp only [inK]; omega) (run_l tabOk ?_) | refine wl_mul rfl rfl rfl rfl rfl rfl (by omega) (by omega) (run_l tabOk ?_) | refine gs_dt (by first | assumption | omega) ?_ | refine gs_df (by first | assumption | omega) ?_ | refine gs_t (by assumption) ?_ | refine gs_f (by assumption) ?_ | refine gs_d (fun hg => ?_) (fun hg => ?_) | refine gs_n (fun hg => ?_) (fun hg => ?_) | refine gs_nb (fun hg => ?_) (fun hg => ?_) | refine gs_b (fun hg => ?_) (fun hg => ?_)) <;> conv => whnf) | refine fin1 rfl rfl ?_))
    refine wl_str rfl rfl Try.underlying91 Try.underlying5 Try.underlying9 hp rfl rfl rfl ?_
    refine run_l tabOk ?_
    conv => whnf
    (repeat' (first | ((first | refine wl_add rfl rfl rfl rfl rfl rfl (by omega) (by omega) (run_l tabOk ?_) | refine wl_sub rfl rfl rfl rfl rfl rfl (by omega) (by omega) (run_l tabOk ?_) | refine wl_cvA tabOk rfl rfl rfl (by simp only [inK]; omega) rfl rfl rfl (run_l tabOk ?_) | refine wl_cvB tabOk rfl rfl rfl rfl rfl rfl (run_l tabOk ?_) | refine wl_rem rfl rfl rfl rfl rfl rfl (by omega) (by omega) (fun r hr hr0 hr1 hr2 => run_l tabOk ?_) | refine wl_quo rfl rfl rfl rfl rfl rfl (by omega) (by omega) (by simp only [inK]; omega) (run_l tabOk ?_) | refine wl_mul rfl rfl rfl rfl rfl rfl (by omega) (by omega) (run_l tabOk ?_) | refine gs_dt (by first | assumption | omega) ?_ | refine gs_df (by first | assumption | omega) ?_ | refine gs_t (by assumption) ?_ | refine gs_f (by assumption) ?_ | refine gs_d (fun hg => ?_) (fun hg => ?_) | refine gs_n (fun hg => ?_) (fun hg => ?_) | refine gs_nb (fun hg => ?_) (fun hg => ?_) | refine gs_b (fun hg => ?_) (fun hg => ?_)) <;> conv => whnf) | refine fin1 rfl rfl ?_))
    exact ⟨rfl, hB0r⟩
set_option maxHeartbeats 4000000 in
theorem shEmpty (c : Con) (B : Option Addr) (cc : Nat) (w : World) (hk : 1 ≤ c.k ∧ c.k ≤ 5) :
    Calls Try.prog 59 #[.agg #[.int .u8 c.k, .int .i64 c.a, .int .i64 c.b, .slice B c.args.length cc]] w fun e w' => e = .returned (.bool (emptyC c)) ∧ Below w.heap.size w w' := by
  refine enterR (args := [.agg #[.int .u8 c.k, .int .i64 c.a, .int .i64 c.b, .slice B c.args.length cc]]) tabOk Try.func59 rfl Try.ntmps59 rfl ?_; conv => whnf
  refine wl_box rfl rfl rfl rfl rfl rfl ?_
  intro g1 w1 hn1
  have hb1 := hn1.blk
  have hB := hn1.below
  refine run_l tabOk ?_
  conv => whnf
  unfold emptyC
  (repeat' (first | (refine wl_Lg tabOk hb1 rfl rfl rfl rfl rfl rfl rfl (run_l tabOk ?_); conv => whnf) | ((first | refine wl_add rfl rfl rfl rfl rfl rfl (by omega) (by omega) (run_l tabOk ?_) | refine wl_sub rfl rfl rfl rfl rfl rfl (by omega) (by omega) (run_l tabOk ?_) | refine wl_cvA tabOk rfl rfl rfl (by simp only [inK]; omega) rfl rfl rfl (run_l tabOk ?_) | refine wl_cvB tabOk rfl rfl rfl rfl rfl rfl (run_l tabOk ?_) | refine wl_rem rfl rfl rfl rfl rfl rfl (by omega) (by omega) (fun r hr hr0 hr1 hr2 => run_l tabOk ?_) | refine wl_quo rfl rfl rfl rfl rfl rfl (by omega) (by omega) (by simp only [inK]; omega) (run_l tabOk ?_) | refine wl_mul rfl rfl rfl rfl rfl rfl (by omega) (by omega) (run_l tabOk ?_) | refine gs_dt (by first | assumption | omega) ?_ | refine gs_df (by first | assumption | omega) ?_ | refine gs_t (by assumption) ?_ | refine gs_f (by assumption) ?_ | refine gs_d (fun hg => ?_) (fun hg => ?_) | refine gs_n (fun hg => ?_) (fun hg => ?_) | refine gs_nb (fun hg => ?_) (fun hg => ?_) | refine gs_b (fun hg => ?_) (fun hg => ?_)) <;> conv => whnf) | refine fin1 rfl rfl ?_))
  all_goals
    refine ⟨?_, hB⟩
    congr 2
    simp_all
    try (intro h; omega)
set_option maxHeartbeats 4000000 in
theorem shAt {wh : Nat → Int} {n gW gw : Nat} {w : World} (h1 : w.heap[gW]? = some (.cells #[.slice (some ⟨gw, 0, none⟩) n n] 31 (0, 0))) (h2 : w.heap[gw]? = some (.cells (fZ n wh).toArray 3 (0, 0))) (v : Int) (hv : v < (n : Int)) :
    Calls Try.prog 56 #[.int .i64 v, .pointer (some ⟨gW, 0, none⟩)] w fun e w' => e = .returned (.int .i64 (atF wh v)) ∧ Below w.heap.size w w' := by
  refine enterR (args := [.int .i64 v, .pointer (some ⟨gW, 0, none⟩)]) tabOk Try.func56 rfl Try.ntmps56 rfl ?_; conv => whnf
  by_cases h0 : v < 0
  · have e : atF wh v = -1 := if_pos h0
    rw [e]
    (repeat' (first | (refine wl_Lg tabOk h1 rfl rfl rfl rfl rfl rfl rfl (run_l tabOk ?_); conv => whnf) | ((first | refine wl_add rfl rfl rfl rfl rfl rfl (by omega) (by omega) (run_l tabOk ?_) | refine wl_sub rfl rfl rfl rfl rfl rfl (by omega) (by omega) (run_l tabOk ?_) | refine wl_cvA tabOk rfl rfl rfl (by simp only [inK]; omega) rfl rfl rfl (run_l tabOk ?_) | refine wl_cvB tabOk rfl rfl rfl rfl rfl rfl (run_l tabOk ?_) | refine wl_rem rfl rfl rfl rfl rfl rfl (by omega) (by omega) (fun r hr hr0 hr1 hr2 => run_l tabOk ?_) | refine wl_quo rfl rfl rfl rfl rfl rfl (by omega) (by omega) (by simp only [inK]; omega) (run_l tabOk ?_) | refine wl_mul rfl rfl rfl rfl rfl rfl (by omega) (by omega) (run_l tabOk ?_) | refine gs_dt (by first | assumption | omega) ?_ | refine gs_df (by first | assumption | omega) ?_ | refine gs_t (by assumption) ?_ | refine gs_f (by assumption) ?_ | refine gs_d (fun hg => ?_) (fun hg => ?_) | refine gs_n (fun hg => ?_) (fun hg => ?_) | refine gs_nb (fun hg => ?_) (fun hg => ?_) | refine gs_b (fun hg => ?_) (fun hg => ?_)) <;> conv => whnf) | refine fin1 rfl rfl ?_))
    exact ⟨rfl, Below.refl _ _⟩
  · have e : atF wh v = wh v.toNat := if_neg h0
    have hc : w.cell? ((⟨gw, 0, none⟩ : Addr).add (v.toNat * 1)) = some (.int .i64 (wh v.toNat)) := by
      rw [Nat.mul_one, add_zero]
      exact cell_blk h2 (by simpa using fZ_get (show v.toNat < n by omega))
    rw [e]
    (repeat' (first | (refine wl_Lg tabOk h1 rfl rfl rfl rfl rfl rfl rfl (run_l tabOk ?_); conv => whnf) | (refine wl_L tabOk rfl rfl rfl rfl rfl rfl hc (run_l tabOk ?_); conv => whnf) | (refine wl_X tabOk 3 1 rfl rfl rfl rfl rfl rfl rfl (by omega) (by omega) (run_l tabOk ?_); conv => whnf) | ((first | refine wl_add rfl rfl rfl rfl rfl rfl (by omega) (by omega) (run_l tabOk ?_) | refine wl_sub rfl rfl rfl rfl rfl rfl (by omega) (by omega) (run_l tabOk ?_) | refine wl_cvA tabOk rfl rfl rfl (by simp only [inK]; omega) rfl rfl rfl (run_l tabOk ?_) | refine wl_cvB tabOk rfl rfl rfl rfl rfl rfl (run_l tabOk ?_) | refine wl_rem rfl rfl rfl rfl rfl rfl (by omega) (by omega) (fun r hr hr0 hr1 hr2 => run_l tabOk ?_) | refine wl_quo rfl rfl rfl rfl rfl rfl (by omega) (by omega) (by simp only [inK]; omega) (run_l tabOk ?_) | refine wl_mul rfl rfl rfl rfl rfl rfl (by omega) (by omega) (run_l tabOk ?_) | refine gs_dt (by first | assumption | omega) ?_ | refine gs_df (by first | assumption | omega) ?_ | refine gs_t (by assumption) ?_ | refine gs_f (by assumption) ?_ | refine gs_d (fun hg => ?_) (fun hg => ?_) | refine gs_n (fun hg => ?_) (fun hg => ?_) | refine gs_nb (fun hg => ?_) (fun hg => ?_) | refine gs_b (fun hg => ?_) (fun hg => ?_)) <;> conv => whnf) | refine fin1 rfl rfl ?_))
    exact ⟨rfl, Below.refl _ _⟩
def atV (gW : Nat) : Value := .func (.func 56) #[] #[.pointer (some ⟨gW, 0, none⟩)]
set_option maxHeartbeats 8000000 in
theorem shAll {wh : Nat → Int} {n gW gw gA : Nat} {w : World} (h1 : w.heap[gW]? = some (.cells #[.slice (some ⟨gw, 0, none⟩) n n] 31 (0, 0))) (h2 : w.heap[gw]? = some (.cells (fZ n wh).toArray 3 (0, 0))) (hA : w.heap[gA]? = some (.cells #[atV gW] 103 (0, 0)))
    (l : List Int) (B : Option Addr) (cc : Nat) (hr : RI w B l) (hl : ∀ x ∈ l, x < (n : Int)) (hll : l.length ≤ 6) (hw : ∀ v, v < n → -1 ≤ wh v ∧ wh v < (n : Int)) (hn : n ≤ 16384) :
    Calls Try.prog 57 #[.slice B l.length cc, .pointer (some ⟨gA, 0, none⟩)] w fun e w' => ∃ E ec, e = .returned (.slice E l.length ec) ∧ GInts w.heap.size w' (.slice E l.length ec) (l.map (atF wh)) ∧ Below w.heap.size w w' := by
  refine enterR (args := [.slice B l.length cc, .pointer (some ⟨gA, 0, none⟩)]) tabOk Try.func57 rfl Try.ntmps57 rfl ?_; conv => whnf
  (repeat' (first | ((first | refine wl_add rfl rfl rfl rfl rfl rfl (by omega) (by omega) (run_l tabOk ?_) | refine wl_sub rfl rfl rfl rfl rfl rfl (by omega) (by omega) (run_l tabOk ?_) | refine wl_cvA tabOk rfl rfl rfl (by simp only [inK]; omega) rfl rfl rfl (run_l tabOk ?_) | refine wl_cvB tabOk rfl rfl rfl rfl rfl rfl (run_l tabOk ?_) | refine wl_rem rfl rfl rfl rfl rfl rfl (by omega) (by omega) (fun r hr hr0 hr1 hr2 => run_l tabOk ?_) | refine wl_quo rfl rfl rfl rfl rfl rfl (by omega) (by omega) (by simp only [inK]; omega) (run_l tabOk ?_) | refine wl_mul rfl rfl rfl rfl rfl rfl (by omega) (by omega) (run_l tabOk ?_) | refine gs_dt (by first | assumption | omega) ?_ | refine gs_df (by first | assumption | omega) ?_ | refine gs_t (by assumption) ?_ | refine gs_f (by assumption) ?_ | refine gs_d (fun hg => ?_) (fun hg => ?_) | refine gs_n (fun hg => ?_) (fun hg => ?_) | refine gs_nb (fun hg => ?_) (fun hg => ?_) | refine gs_b (fun hg => ?_) (fun hg => ?_)) <;> conv => whnf) | refine fin1 rfl rfl ?_))
  refine lp_loop tabOk (X := Nat × Option Addr × Nat) (fun x => [(1, .pointer (some ⟨gA, 0, none⟩)), (4, .slice x.2.1 x.1 x.2.2), (7, .slice B l.length cc), (8, .int .i64 l.length), (9, .int .i64 x.1)])
    (fun x wr => x.1 ≤ l.length ∧ Below w.heap.size w wr ∧ GInts w.heap.size wr (.slice x.2.1 x.1 x.2.2) ((l.take x.1).map (atF wh))) (fun x => l.length - x.1) (0, none, 0) ⟨rfl, rfl, rfl, rfl, rfl, trivial⟩ ⟨by simp, Below.refl _ _, by simpa using GRow.nil ..⟩ ?_
  rintro ⟨i, E, ec⟩ G wr ⟨hi, hB, hG⟩
  simp only at hi hG
  have hA' := blk_up hB hA
  by_cases hil : i < l.length
  · obtain ⟨y, ad3, ⟨hy⟩, e3, hyc, _, _⟩ := intsE (hr.up (stays_I _) hB) i hil
    subst e3
    have hym : y ∈ l := by rw [← hy, getElem!_pos l i hil]; exact List.getElem_mem hil
    have hyr := atF_rng' hw (hl y hym)
    have hlen : ((l.take i).map (atF wh)).length = i := by simp; omega
    have hnx : (l.take (i + 1)).map (atF wh) = (l.take i).map (atF wh) ++ [atF wh y] := by rw [List.take_add_one, List.getElem?_eq_getElem hil, List.map_append, ← hy, getElem!_pos l i hil]; rfl
    obtain ⟨flat, o1, o2⟩ := hG.own
    rw [hlen] at o1
    conv => whnf
    (repeat' (first | (refine wl_Lg tabOk hA' rfl rfl rfl rfl rfl rfl rfl (run_l tabOk ?_); conv => whnf) | (refine wl_L tabOk rfl rfl rfl rfl rfl rfl hyc (run_l tabOk ?_); conv => whnf) | (refine wl_Xn tabOk 3 1 rfl rfl rfl rfl rfl rfl rfl (by omega) (run_l tabOk ?_); conv => whnf) | ((first | refine wl_add rfl rfl rfl rfl rfl rfl (by omega) (by omega) (run_l tabOk ?_) | refine wl_sub rfl rfl rfl rfl rfl rfl (by omega) (by omega) (run_l tabOk ?_) | refine wl_cvA tabOk rfl rfl rfl (by simp only [inK]; omega) rfl rfl rfl (run_l tabOk ?_) | refine wl_cvB tabOk rfl rfl rfl rfl rfl rfl (run_l tabOk ?_) | refine wl_rem rfl rfl rfl rfl rfl rfl (by omega) (by omega) (fun r hr hr0 hr1 hr2 => run_l tabOk ?_) | refine wl_quo rfl rfl rfl rfl rfl rfl (by omega) (by omega) (by simp only [inK]; omega) (run_l tabOk ?_) | refine wl_mul rfl rfl rfl rfl rfl rfl (by omega) (by omega) (run_l tabOk ?_) | refine gs_dt (by first | assumption | omega) ?_ | refine gs_df (by first | assumption | omega) ?_ | refine gs_t (by assumption) ?_ | refine gs_f (by assumption) ?_ | refine gs_d (fun hg => ?_) (fun hg => ?_) | refine gs_n (fun hg => ?_) (fun hg => ?_) | refine gs_nb (fun hg => ?_) (fun hg => ?_) | refine gs_b (fun hg => ?_) (fun hg => ?_)) <;> conv => whnf) | refine fin1 rfl rfl ?_))
    refine wl_CF (first := []) (args := [.int .i64 y]) (caps := [.pointer (some ⟨gW, 0, none⟩)]) fn56 (shAt (blk_up hB h1) (blk_up hB h2) y (hl y hym)) rfl rfl rfl rfl rfl rfl rfl ?_
    rintro _ w2 ⟨rfl, hB2⟩
    refine ⟨_, rfl, run_l tabOk ?_⟩
    conv => whnf
    refine wl_bs tabOk 3 1 rfl rfl rfl rfl rfl rfl rfl rfl rfl rfl ?_
    intro g8 w3 hn3
    refine run_l tabOk ?_
    conv => whnf
    have hB23 := bup hB2 hn3.below
    have hG3 := hG.below hB23
    refine wl_ap tabOk 3 1 8 (o1.kept (grown_of hB23) (Classical.em _)) hn3.blk rfl rfl rfl rfl rfl rfl rfl rfl rfl rfl rfl rfl (by simp [Value.oneCell']) (by omega) (by omega) (by have := hB23.size; have := hB.size; omega) ?_
    intro A7 cap7 w4 hown hgr hob
    have hG4 := gints_push hG3 (flat := flat) (fun w' _ => by have := o2 w' (by simp); exact this) (by rw [hlen]; exact hown) hgr hob (y := atF wh y) ⟨by omega, by omega⟩
    rw [← hnx] at hG4
    have hB4 : Below w.heap.size w w4 := (bup hB hB23).grown hgr (bup hB hB23).size (fun k hk => by have := (o1.lt k hk).1; omega)
    refine run_l tabOk ?_
    conv => whnf
    (repeat' (first | ((first | refine wl_add rfl rfl rfl rfl rfl rfl (by omega) (by omega) (run_l tabOk ?_) | refine wl_sub rfl rfl rfl rfl rfl rfl (by omega) (by omega) (run_l tabOk ?_) | refine wl_cvA tabOk rfl rfl rfl (by simp only [inK]; omega) rfl rfl rfl (run_l tabOk ?_) | refine wl_cvB tabOk rfl rfl rfl rfl rfl rfl (run_l tabOk ?_) | refine wl_rem rfl rfl rfl rfl rfl rfl (by omega) (by omega) (fun r hr hr0 hr1 hr2 => run_l tabOk ?_) | refine wl_quo rfl rfl rfl rfl rfl rfl (by omega) (by omega) (by simp only [inK]; omega) (run_l tabOk ?_) | refine wl_mul rfl rfl rfl rfl rfl rfl (by omega) (by omega) (run_l tabOk ?_) | refine gs_dt (by first | assumption | omega) ?_ | refine gs_df (by first | assumption | omega) ?_ | refine gs_t (by assumption) ?_ | refine gs_f (by assumption) ?_ | refine gs_d (fun hg => ?_) (fun hg => ?_) | refine gs_n (fun hg => ?_) (fun hg => ?_) | refine gs_nb (fun hg => ?_) (fun hg => ?_) | refine gs_b (fun hg => ?_) (fun hg => ?_)) <;> conv => whnf) | refine fin1 rfl rfl ?_))
    exact ⟨(i + 1, A7, cap7), ⟨rfl, rfl, rfl, rfl, rfl, trivial⟩, ⟨by simp only; omega, hB4, hG4⟩, by simp only; omega⟩
  · have hil2 : i = l.length := by omega
    rw [hil2, List.take_length] at hG
    rw [hil2]
    conv => whnf
    (repeat' (first | ((first | refine wl_add rfl rfl rfl rfl rfl rfl (by omega) (by omega) (run_l tabOk ?_) | refine wl_sub rfl rfl rfl rfl rfl rfl (by omega) (by omega) (run_l tabOk ?_) | refine wl_cvA tabOk rfl rfl rfl (by simp only [inK]; omega) rfl rfl rfl (run_l tabOk ?_) | refine wl_cvB tabOk rfl rfl rfl rfl rfl rfl (run_l tabOk ?_) | refine wl_rem rfl rfl rfl rfl rfl rfl (by omega) (by omega) (fun r hr hr0 hr1 hr2 => run_l tabOk ?_) | refine wl_quo rfl rfl rfl rfl rfl rfl (by omega) (by omega) (by simp only [inK]; omega) (run_l tabOk ?_) | refine wl_mul rfl rfl rfl rfl rfl rfl (by omega) (by omega) (run_l tabOk ?_) | refine gs_dt (by first | assumption | omega) ?_ | refine gs_df (by first | assumption | omega) ?_ | refine gs_t (by assumption) ?_ | refine gs_f (by assumption) ?_ | refine gs_d (fun hg => ?_) (fun hg => ?_) | refine gs_n (fun hg => ?_) (fun hg => ?_) | refine gs_nb (fun hg => ?_) (fun hg => ?_) | refine gs_b (fun hg => ?_) (fun hg => ?_)) <;> conv => whnf) | refine fin1 rfl rfl ?_))
    exact ⟨E, ec, rfl, hG, hB⟩
end Go.Proofs.Ytjggjhgbobmkhaa
