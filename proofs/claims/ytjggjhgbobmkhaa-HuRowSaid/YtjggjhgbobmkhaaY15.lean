/- Several texts of one claim in one file: A03 H04 H05 OF03. -/
import Derived.Test.YtjggjhgbobmkhaaY14
/- pile: Add, Of. -/
namespace Go.Proofs.Ytjggjhgbobmkhaa
open Go.RowKit
set_option linter.unusedVariables false
set_option linter.unusedSimpArgs false
set_option maxRecDepth 100000
set_option linter.unnecessarySimpa false
theorem add_off3 (g j k : Nat) : (⟨((⟨g, 0, none⟩ : Addr).add j).block, ((⟨g, 0, none⟩ : Addr).add j).off + k, none⟩ : Addr) = ⟨g, j + k, none⟩ := by rw [add_zero]
theorem flatB_set : ∀ (bs : List Blk) (i w : Nat), i < bs.length → (flatB bs).set (i * 2 + 1) (.int .u64 (w : Int)) = flatB (bs.set i ⟨bs[i]!.a, w⟩)
  | [], i, w, h => by simp at h
  | b :: bs, 0, w, h => by simp [flatB, blkC]
  | b :: bs, i + 1, w, h => by
    have e : (i + 1) * 2 + 1 = (i * 2 + 1) + 2 := by omega
    have ih := flatB_set bs i w (by simpa using h)
    rw [e, flatB_cons]
    show ([Value.int .i64 b.a, Value.int .u64 (b.w : Int)] ++ flatB bs).set (i * 2 + 1 + 2) _ = _
    simp only [List.cons_append, List.nil_append, List.set_cons_succ]
    rw [ih]
    simp [flatB, blkC]
theorem ins_set (bs : List Blk) (i : Nat) (x y : Blk) (hi : i ≤ bs.length) : (bs.take i ++ x :: bs.drop i).set i y = bs.take i ++ y :: bs.drop i := by
  have hl : (bs.take i).length = i := by simp; omega
  rw [List.set_append]
  rw [if_neg (by omega), hl]
  simp
theorem ownsB_set {base g0 : Nat} {w w1 : World} {bs : List Blk} {c i v : Nat} {cur : List Value} (ho : ownsB w base (.slice (some ⟨g0, 0, none⟩) bs.length c) bs) (hcur : w.heap[g0]? = some (.cells cur.toArray 82 (0, 0))) (hi : i < bs.length)
    (hp : Put w w1 g0 (cur.set (i * 2 + 1) (.int .u64 (v : Int))) 82) : ownsB w1 base (.slice (some ⟨g0, 0, none⟩) (bs.set i ⟨bs[i]!.a, v⟩).length c) (bs.set i ⟨bs[i]!.a, v⟩) := by
  obtain ⟨hfl, ⟨h0, _⟩ | ⟨gb, cap, cur2, e1, hgb, hcur2, hncap, hcapm, hcs, htake⟩⟩ := ho
  · cases h0
  · simp only [Value.slice.injEq, Option.some.injEq, Addr.mk.injEq, and_true, true_and] at e1
    obtain ⟨rfl, rfl⟩ := e1
    rw [hcur] at hcur2
    simp only [Option.some.injEq, Obj.cells.injEq, and_true, true_and] at hcur2
    subst hcur2
    refine ⟨flatB_len _, .inr ⟨g0, c, _, by simp, hgb, hp.blk, by simpa using hncap, hcapm, by simpa using hcs, ?_⟩⟩
    rw [← flatB_set bs i v hi]
    have htake : cur.take (bs.length * 2) = flatB bs := by simpa using htake
    rw [← htake]
    simp [List.take_set]
theorem ownsB.blkform {w : World} {base : Nat} {A : Option Addr} {c : Nat} {bs : List Blk} (ho : ownsB w base (.slice A bs.length c) bs) (h : 0 < bs.length) : ∃ (gb : Nat) (cur : List Value), A = some ⟨gb, 0, none⟩ ∧ w.heap[gb]? = some (.cells cur.toArray 82 (0, 0)) ∧ cur.length = c * 2 ∧ bs.length ≤ c := by
  obtain ⟨hfl, ⟨h9, h8⟩ | ⟨gb, cap, cur, e1, hgb, hcur, hncap, hcapm, hcs, htake⟩⟩ := ho
  · omega
  · obtain ⟨cur, rfl⟩ : ∃ l : List Value, cur = l.toArray := ⟨cur.toList, by simp⟩
    simp only [Value.slice.injEq, true_and] at e1
    obtain ⟨rfl, rfl⟩ := e1
    exact ⟨gb, cur, rfl, hcur, by simpa using hcs, hncap⟩
theorem wl_SFr {P : Program} {T : Nat → Option TI} {n : Nat} {Q : Post} {F : Fm} {w : World} {ops : Array Oper} {rest : List Oper} {o : Oper} (hT : TabOk P T) (k : Nat) {t t' : TypeId} {x y : Operand} {i : TI} {g j : Nat} {cs : List Value} {v : Value} (hb : w.heap[g]? = some (.cells cs.toArray t' (0, 0))) (hop : o.op = .store t x y) (hx : ev F x = .pointer (some ⟨((⟨g, 0, none⟩ : Addr).add j).block, ((⟨g, 0, none⟩ : Addr).add j).off + k, none⟩)) (hy : ev F y = v)
    (hi : T t = some i) (h1 : i.size = 1) (hv : v.oneCell' = true) (hoff : j + k < cs.length) (hg : o.guard = none) (hd : o.dst = none)
    (kk : ∀ w1, Put w w1 g (cs.set (j + k) v) t' → wl P n ops rest Q F w1) : wl P n ops (o :: rest) Q F w :=
  wl_S (off := j + k) hT hb hop (by rw [hx, add_off3]) hy hi h1 hv hoff hg hd kk
theorem shl_one (n k : Nat) (b : Int) (hb : b = k) (hk : k < 64) : IntKind.u64.wrap (1 * 2 ^ min b.toNat IntKind.u64.bits) = ((2 ^ k : Nat) : Int) := by
  subst hb
  have e : min ((k : Int)).toNat IntKind.u64.bits = k := by simp [IntKind.bits]; omega
  have h : 2 ^ k < 18446744073709551616 := Nat.pow_lt_pow_right (a := 2) (by omega) hk
  have e2 : (1 : Int) * 2 ^ k = ((2 ^ k : Nat) : Int) := by simp
  rw [e, e2]
  generalize 2 ^ k = p at h ⊢
  rw [IntKind.wrap_u64]
  omega
theorem and_pow (w k : Nat) : decide (((w &&& 2 ^ k : Nat) : Int) = 0) = !w.testBit k := by
  have h : w &&& 2 ^ k = if w.testBit k then 2 ^ k else 0 := by
    refine Nat.eq_of_testBit_eq fun j => ?_
    rw [Nat.testBit_and, Nat.testBit_two_pow]
    by_cases e : k = j
    · subst e; cases hw : w.testBit k <;> simp [hw, Nat.testBit_two_pow]
    · split <;> simp [e, Nat.testBit_two_pow]
  have hp := Nat.two_pow_pos k
  rw [h]
  cases w.testBit k
  · rfl
  · have : ¬ (((if true = true then 2 ^ k else 0 : Nat) : Int) = 0) := by rw [if_pos rfl]; omega
    rw [decide_eq_false this]; rfl
/-- What Add leaves. -/
structure AddR (base g : Nat) (w : World) (bs : List Blk) (fp : List Nat) (n : Int) (e : Ending) (w' : World) (bs' : List Blk) (fp' : List Nat) : Prop where
  ret : e = .returned (.bool (decide (0 ≤ n) && !memB bs n.toNat))
  set : PSet base g w' bs' fp'
  kept : Kept fp w w'
  new : ∀ b ∈ fp', b ∈ fp ∨ w.heap.size ≤ b
  mem : ∀ m : Nat, memB bs' m = (memB bs m || decide (n = m))
  len : bs'.length ≤ bs.length + 1
set_option maxHeartbeats 8000000 in
theorem pAdd {base g : Nat} {w : World} {bs : List Blk} {fp : List Nat} (hP : PSet base g w bs fp) (n : Int) (hn : n ≤ 9223372036854775807) (hl : bs.length < 1099511627776) (hbase : base ≤ w.heap.size) :
    Calls Try.prog 37 #[.pointer (some ⟨g, 0, none⟩), .int .i64 n] w fun e w' => ∃ bs' fp', AddR base g w bs fp n e w' bs' fp' := by
  obtain ⟨V, hb, ho, hfp, hne⟩ := hP.ex
  obtain ⟨A, c, rfl, hlc, hrow⟩ := ho.row
  refine enterR (args := [.pointer (some ⟨g, 0, none⟩), .int .i64 n]) tabOk Try.func37 rfl Try.ntmps37 rfl ?_; conv => whnf
  by_cases h0 : n < 0
  · (repeat' (first | (refine wl_pnF tabOk rfl rfl rfl rfl rfl rfl (run_l tabOk ?_); conv => whnf) | (refine wl_pnT tabOk rfl rfl rfl rfl rfl rfl (run_l tabOk ?_); conv => whnf) | (refine wl_pqF tabOk rfl rfl rfl rfl rfl rfl (run_l tabOk ?_); conv => whnf) | (refine wl_pqT tabOk rfl rfl rfl rfl rfl rfl (run_l tabOk ?_); conv => whnf) | (refine wl_add rfl rfl rfl rfl rfl rfl (by omega) (by omega) (run_l tabOk ?_); conv => whnf) | (refine wl_sub rfl rfl rfl rfl rfl rfl (by omega) (by omega) (run_l tabOk ?_); conv => whnf) | (refine wl_cvA tabOk rfl rfl rfl (by simp only [inK]; omega) rfl rfl rfl (run_l tabOk ?_); conv => whnf) | (refine wl_cvB tabOk rfl rfl rfl rfl rfl rfl (run_l tabOk ?_); conv => whnf) | (refine wl_rem rfl rfl rfl rfl rfl rfl (by omega) (by omega) (fun r hr hr0 hr1 hr2 => run_l tabOk ?_); conv => whnf) | (refine wl_quo rfl rfl rfl rfl rfl rfl (by omega) (by omega) (by simp only [inK]; omega) (run_l tabOk ?_); conv => whnf) | (refine wl_mul rfl rfl rfl rfl rfl rfl (by omega) (by omega) (run_l tabOk ?_); conv => whnf) | (refine gs_dt (by first | assumption | omega) ?_; conv => whnf) | (refine gs_df (by first | assumption | omega) ?_; conv => whnf) | (refine gs_t (by assumption) ?_; conv => whnf) | (refine gs_f (by assumption) ?_; conv => whnf) | (refine gs_d (fun hg => ?_) (fun hg => ?_) <;> conv => whnf) | (refine gs_n (fun hg => ?_) (fun hg => ?_) <;> conv => whnf) | (refine gs_nb (fun hg => ?_) (fun hg => ?_) <;> conv => whnf) | (refine gs_b (fun hg => ?_) (fun hg => ?_) <;> conv => whnf) | refine fin1 rfl rfl ?_))
    exact ⟨bs, fp, ⟨by rw [decide_eq_false (by omega : ¬ 0 ≤ n)]; rfl, hP, Kept.refl _ _, fun b hb => .inl hb, fun m => by rw [decide_eq_false (by omega : ¬ n = m), Bool.or_false], by omega⟩⟩
  obtain ⟨m, rfl⟩ : ∃ m : Nat, n = m := ⟨n.toNat, by omega⟩
  (repeat' (first | (refine wl_pnF tabOk rfl rfl rfl rfl rfl rfl (run_l tabOk ?_); conv => whnf) | (refine wl_pnT tabOk rfl rfl rfl rfl rfl rfl (run_l tabOk ?_); conv => whnf) | (refine wl_pqF tabOk rfl rfl rfl rfl rfl rfl (run_l tabOk ?_); conv => whnf) | (refine wl_pqT tabOk rfl rfl rfl rfl rfl rfl (run_l tabOk ?_); conv => whnf) | (refine wl_add rfl rfl rfl rfl rfl rfl (by omega) (by omega) (run_l tabOk ?_); conv => whnf) | (refine wl_sub rfl rfl rfl rfl rfl rfl (by omega) (by omega) (run_l tabOk ?_); conv => whnf) | (refine wl_cvA tabOk rfl rfl rfl (by simp only [inK]; omega) rfl rfl rfl (run_l tabOk ?_); conv => whnf) | (refine wl_cvB tabOk rfl rfl rfl rfl rfl rfl (run_l tabOk ?_); conv => whnf) | (refine wl_rem rfl rfl rfl rfl rfl rfl (by omega) (by omega) (fun r hr hr0 hr1 hr2 => run_l tabOk ?_); conv => whnf) | (refine wl_quo rfl rfl rfl rfl rfl rfl (by omega) (by omega) (by simp only [inK]; omega) (run_l tabOk ?_); conv => whnf) | (refine wl_mul rfl rfl rfl rfl rfl rfl (by omega) (by omega) (run_l tabOk ?_); conv => whnf) | (refine gs_dt (by first | assumption | omega) ?_; conv => whnf) | (refine gs_df (by first | assumption | omega) ?_; conv => whnf) | (refine gs_t (by assumption) ?_; conv => whnf) | (refine gs_f (by assumption) ?_; conv => whnf) | (refine gs_d (fun hg => ?_) (fun hg => ?_) <;> conv => whnf) | (refine gs_n (fun hg => ?_) (fun hg => ?_) <;> conv => whnf) | (refine gs_nb (fun hg => ?_) (fun hg => ?_) <;> conv => whnf) | (refine gs_b (fun hg => ?_) (fun hg => ?_) <;> conv => whnf) | refine fin1 rfl rfl ?_))
  refine wl_C fn40 (pFind hP ((m : Int) / 64) (by omega) (by omega)) rfl rfl rfl rfl rfl rfl rfl ?_
  rintro _ w2 ⟨i, ok, rfl, hf, hB⟩
  refine ⟨_, rfl, run_l tabOk ?_⟩
  conv => whnf
  obtain ⟨hi, hlo, hhi, hok⟩ := hf
  have hb2 := blk_up hB hb
  have ho2 : ownsB w2 base (.slice A bs.length c) bs := ho.keep fun b e => hB.block b (ho.lt b e).2
  have hpow : 2 ^ (m % 64) < 18446744073709551616 := Nat.pow_lt_pow_right (a := 2) (by omega) (Nat.mod_lt _ (by omega))
  cases ok
  · have hhi2 : ∀ j, i ≤ j → j < bs.length → ((m / 64 : Nat) : Int) < bs[j]!.a := fun j h1 h2 => by
      have h3 := hhi j h1 h2
      rcases Nat.lt_or_ge i j with h4 | h4
      · have := hhi i (Nat.le_refl _) (by omega)
        have := hP.wf.up i j h4 h2
        omega
      · have : j = i := by omega
        subst this
        rw [decide_eq_true h2] at hok
        have h4 : ¬ bs[j]!.a = (m : Int) / 64 := by simpa using hok.symm
        omega
    (repeat' (first | (refine wl_Lg tabOk hb2 rfl rfl rfl rfl rfl rfl rfl (run_l tabOk ?_); conv => whnf) | (refine wl_add rfl rfl rfl rfl rfl rfl (by omega) (by omega) (run_l tabOk ?_); conv => whnf) | (refine wl_sub rfl rfl rfl rfl rfl rfl (by omega) (by omega) (run_l tabOk ?_); conv => whnf) | (refine wl_cvA tabOk rfl rfl rfl (by simp only [inK]; omega) rfl rfl rfl (run_l tabOk ?_); conv => whnf) | (refine wl_cvB tabOk rfl rfl rfl rfl rfl rfl (run_l tabOk ?_); conv => whnf) | (refine wl_rem rfl rfl rfl rfl rfl rfl (by omega) (by omega) (fun r hr hr0 hr1 hr2 => run_l tabOk ?_); conv => whnf) | (refine wl_quo rfl rfl rfl rfl rfl rfl (by omega) (by omega) (by simp only [inK]; omega) (run_l tabOk ?_); conv => whnf) | (refine wl_mul rfl rfl rfl rfl rfl rfl (by omega) (by omega) (run_l tabOk ?_); conv => whnf) | (refine gs_dt (by first | assumption | omega) ?_; conv => whnf) | (refine gs_df (by first | assumption | omega) ?_; conv => whnf) | (refine gs_t (by assumption) ?_; conv => whnf) | (refine gs_f (by assumption) ?_; conv => whnf) | (refine gs_d (fun hg => ?_) (fun hg => ?_) <;> conv => whnf) | (refine gs_n (fun hg => ?_) (fun hg => ?_) <;> conv => whnf) | (refine gs_nb (fun hg => ?_) (fun hg => ?_) <;> conv => whnf) | (refine gs_b (fun hg => ?_) (fun hg => ?_) <;> conv => whnf) | refine fin1 rfl rfl ?_))
    refine wl_bs tabOk 82 2 rfl rfl rfl rfl rfl rfl rfl rfl rfl rfl ?_
    intro gv w3 hn3
    refine run_l tabOk ?_
    conv => whnf
    have hvb : w3.heap[gv]? = some (.cells (blkC ⟨((m / 64 : Nat) : Int), 0⟩).toArray 82 (0, 0)) := hn3.blk
    have ho3 : ownsB w3 base (.slice A bs.length c) bs := ho2.keep fun b e => hn3.below.block b (ho2.lt b e).2
    refine wl_C fn53 (pInsert ⟨((m / 64 : Nat) : Int), 0⟩ ho3 i gv 1 hi hvb (fun e => by have := (ho2.lt gv e).2; have := hn3.at_; omega) hl (by have := hB.size; have := hn3.size; omega)) rfl rfl rfl rfl rfl rfl rfl ?_
    rintro _ w4 ⟨V4, rfl, ho4, hk4, hob4⟩
    obtain ⟨A4, c4, rfl, hlc4, _⟩ := ho4.row
    refine ⟨_, rfl, run_l tabOk ?_⟩
    conv => whnf
    have hn32 := hn3.size
    have hBs := hB.size
    have hB3 : Below w.heap.size w w3 := bup hB hn3.below
    have hg4 : w4.heap[g]? = some (.cells #[.slice A bs.length c] 76 (0, 0)) := hk4.blk (hn3.old hb2) (by simp; exact fun e => hne e)
    (repeat' (first | (refine wl_Lg tabOk hg4 rfl rfl rfl rfl rfl rfl rfl (run_l tabOk ?_); conv => whnf) | (refine wl_add rfl rfl rfl rfl rfl rfl (by omega) (by omega) (run_l tabOk ?_); conv => whnf) | (refine wl_sub rfl rfl rfl rfl rfl rfl (by omega) (by omega) (run_l tabOk ?_); conv => whnf) | (refine wl_cvA tabOk rfl rfl rfl (by simp only [inK]; omega) rfl rfl rfl (run_l tabOk ?_); conv => whnf) | (refine wl_cvB tabOk rfl rfl rfl rfl rfl rfl (run_l tabOk ?_); conv => whnf) | (refine wl_rem rfl rfl rfl rfl rfl rfl (by omega) (by omega) (fun r hr hr0 hr1 hr2 => run_l tabOk ?_); conv => whnf) | (refine wl_quo rfl rfl rfl rfl rfl rfl (by omega) (by omega) (by simp only [inK]; omega) (run_l tabOk ?_); conv => whnf) | (refine wl_mul rfl rfl rfl rfl rfl rfl (by omega) (by omega) (run_l tabOk ?_); conv => whnf) | (refine gs_dt (by first | assumption | omega) ?_; conv => whnf) | (refine gs_df (by first | assumption | omega) ?_; conv => whnf) | (refine gs_t (by assumption) ?_; conv => whnf) | (refine gs_f (by assumption) ?_; conv => whnf) | (refine gs_d (fun hg => ?_) (fun hg => ?_) <;> conv => whnf) | (refine gs_n (fun hg => ?_) (fun hg => ?_) <;> conv => whnf) | (refine gs_nb (fun hg => ?_) (fun hg => ?_) <;> conv => whnf) | (refine gs_b (fun hg => ?_) (fun hg => ?_) <;> conv => whnf) | refine fin1 rfl rfl ?_))
    refine wl_S (off := 0) tabOk hg4 rfl rfl rfl rfl rfl rfl (by simp) rfl rfl ?_
    intro w5 hp5
    refine run_l tabOk ?_
    conv => whnf
    have hln : (bs.take i ++ (⟨((m / 64 : Nat) : Int), 0⟩ : Blk) :: bs.drop i).length = bs.length + 1 := by simp; omega
    have hgl := blk_lt hb
    have hne5 : (Value.slice A4 (bs.take i ++ (⟨((m / 64 : Nat) : Int), 0⟩ : Blk) :: bs.drop i).length c4).ownBlock ≠ some g := fun e => by
      rcases hob4 with h1 | ⟨b, h1, h2⟩
      · exact hne (h1.symm.trans e)
      · rw [e] at h1; cases h1; omega
    have hb5 : w5.heap[g]? = some (.cells #[.slice A4 (bs.take i ++ (⟨((m / 64 : Nat) : Int), 0⟩ : Blk) :: bs.drop i).length c4] 76 (0, 0)) := hp5.blk
    have ho5 := ho4.keep (w1 := w5) fun b e => hp5.grown.block b (ho4.lt b e).2 (fun e2 => hne5 (by rw [e, e2]))
    have hk5 : Kept fp w w5 := ((Kept.of hB3).trans hk4 (fun b hb' => .inl (by rw [hfp]; exact List.mem_cons_of_mem _ hb'))).put hp5 (.inl (by rw [hfp]; simp))
    have hnew5 : ∀ b, (Value.slice A4 (bs.take i ++ (⟨((m / 64 : Nat) : Int), 0⟩ : Blk) :: bs.drop i).length c4).ownBlock = some b → b ∈ fp ∨ w.heap.size ≤ b := fun b e => by
      rcases hob4 with h1 | ⟨b', h1, h2⟩
      · exact .inl (by rw [hfp, ← h1, e]; simp)
      · rw [e] at h1; cases h1; exact .inr (by omega)
    have hi5 : i < (bs.take i ++ (⟨((m / 64 : Nat) : Int), 0⟩ : Blk) :: bs.drop i).length := by omega
    have hlen5 : (bs.take i ++ (⟨((m / 64 : Nat) : Int), 0⟩ : Blk) :: bs.drop i).length ≤ bs.length + 1 := by omega
    have hx : (bs.take i ++ (⟨((m / 64 : Nat) : Int), 0⟩ : Blk) :: bs.drop i)[i]! = ⟨((m / 64 : Nat) : Int), 0⟩ := by rw [insB_get _ _ _ hi (by omega), if_neg (by omega), if_pos rfl]
    have hadd := add_new hP.wf hi (n := m) (fun j hj => by have := hlo j hj; omega) hhi2 (by omega)
    have hres5 : WFB ((bs.take i ++ (⟨((m / 64 : Nat) : Int), 0⟩ : Blk) :: bs.drop i).set i ⟨(bs.take i ++ (⟨((m / 64 : Nat) : Int), 0⟩ : Blk) :: bs.drop i)[i]!.a, (bs.take i ++ (⟨((m / 64 : Nat) : Int), 0⟩ : Blk) :: bs.drop i)[i]!.w ||| 2 ^ (m % 64)⟩) ∧ ∀ k, memB ((bs.take i ++ (⟨((m / 64 : Nat) : Int), 0⟩ : Blk) :: bs.drop i).set i ⟨(bs.take i ++ (⟨((m / 64 : Nat) : Int), 0⟩ : Blk) :: bs.drop i)[i]!.a, (bs.take i ++ (⟨((m / 64 : Nat) : Int), 0⟩ : Blk) :: bs.drop i)[i]!.w ||| 2 ^ (m % 64)⟩) k = (memB bs k || decide (k = m)) := by
      rw [hx, ins_set _ _ _ _ hi]
      simp only [Nat.zero_or]
      exact ⟨hadd.1, hadd.2.1⟩
    have hw5 : (bs.take i ++ (⟨((m / 64 : Nat) : Int), 0⟩ : Blk) :: bs.drop i)[i]!.w < 18446744073709551616 := by rw [hx]; exact (by decide : (0 : Nat) < 18446744073709551616)
    have hold5 : (bs.take i ++ (⟨((m / 64 : Nat) : Int), 0⟩ : Blk) :: bs.drop i)[i]!.w.testBit (m % 64) = memB bs m := by
      rw [hx, hadd.2.2]
      exact Nat.zero_testBit _
    generalize bs.take i ++ (⟨((m / 64 : Nat) : Int), 0⟩ : Blk) :: bs.drop i = bs1 at hb5 ho5 hne5 hnew5 hi5 hlen5 hres5 hw5 hold5
    clear hadd hx hln hlc4 hp5 ho4 hk4 hob4 hg4 hvb ho3 hn3 hhi2 hhi hlo hok ho2 hb2 hB hB3 hn32 hBs
    (repeat' (first | (refine wl_add rfl rfl rfl rfl rfl rfl (by omega) (by omega) (run_l tabOk ?_); conv => whnf) | (refine wl_sub rfl rfl rfl rfl rfl rfl (by omega) (by omega) (run_l tabOk ?_); conv => whnf) | (refine wl_cvA tabOk rfl rfl rfl (by simp only [inK]; omega) rfl rfl rfl (run_l tabOk ?_); conv => whnf) | (refine wl_cvB tabOk rfl rfl rfl rfl rfl rfl (run_l tabOk ?_); conv => whnf) | (refine wl_rem rfl rfl rfl rfl rfl rfl (by omega) (by omega) (fun r hr hr0 hr1 hr2 => run_l tabOk ?_); conv => whnf) | (refine wl_quo rfl rfl rfl rfl rfl rfl (by omega) (by omega) (by simp only [inK]; omega) (run_l tabOk ?_); conv => whnf) | (refine wl_mul rfl rfl rfl rfl rfl rfl (by omega) (by omega) (run_l tabOk ?_); conv => whnf) | (refine gs_dt (by first | assumption | omega) ?_; conv => whnf) | (refine gs_df (by first | assumption | omega) ?_; conv => whnf) | (refine gs_t (by assumption) ?_; conv => whnf) | (refine gs_f (by assumption) ?_; conv => whnf) | (refine gs_d (fun hg => ?_) (fun hg => ?_) <;> conv => whnf) | (refine gs_n (fun hg => ?_) (fun hg => ?_) <;> conv => whnf) | (refine gs_nb (fun hg => ?_) (fun hg => ?_) <;> conv => whnf) | (refine gs_b (fun hg => ?_) (fun hg => ?_) <;> conv => whnf) | refine fin1 rfl rfl ?_))
    have hform := ownsB.blkform ho5 (by omega)
    obtain ⟨gb, cur, rfl, hcur, hcl, hbc⟩ := hform
    obtain ⟨_, hc5, hrow5⟩ := ownsB.rowAt ho5
    obtain ⟨ad, e, _, hc⟩ := rowB_f hrow5 i hi5
    cases e
    refine wl_shl (r := ((2 ^ (m % 64) : Nat) : Int)) (shl_one 0 (m % 64) _ (by omega) (by omega)) rfl rfl rfl (by omega) rfl rfl rfl (run_l tabOk ?_); conv => whnf
    (repeat' (first | (refine wl_Lg tabOk hb5 rfl rfl rfl rfl rfl rfl rfl (run_l tabOk ?_); conv => whnf) | (refine wl_L tabOk rfl rfl rfl rfl rfl rfl hc (run_l tabOk ?_); conv => whnf) | (refine wl_Xn tabOk 82 2 rfl rfl rfl rfl rfl rfl rfl (by omega) (run_l tabOk ?_); conv => whnf) | (refine wl_add rfl rfl rfl rfl rfl rfl (by omega) (by omega) (run_l tabOk ?_); conv => whnf) | (refine wl_sub rfl rfl rfl rfl rfl rfl (by omega) (by omega) (run_l tabOk ?_); conv => whnf) | (refine wl_cvA tabOk rfl rfl rfl (by simp only [inK]; omega) rfl rfl rfl (run_l tabOk ?_); conv => whnf) | (refine wl_cvB tabOk rfl rfl rfl rfl rfl rfl (run_l tabOk ?_); conv => whnf) | (refine wl_rem rfl rfl rfl rfl rfl rfl (by omega) (by omega) (fun r hr hr0 hr1 hr2 => run_l tabOk ?_); conv => whnf) | (refine wl_quo rfl rfl rfl rfl rfl rfl (by omega) (by omega) (by simp only [inK]; omega) (run_l tabOk ?_); conv => whnf) | (refine wl_mul rfl rfl rfl rfl rfl rfl (by omega) (by omega) (run_l tabOk ?_); conv => whnf) | (refine gs_dt (by first | assumption | omega) ?_; conv => whnf) | (refine gs_df (by first | assumption | omega) ?_; conv => whnf) | (refine gs_t (by assumption) ?_; conv => whnf) | (refine gs_f (by assumption) ?_; conv => whnf) | (refine gs_d (fun hg => ?_) (fun hg => ?_) <;> conv => whnf) | (refine gs_n (fun hg => ?_) (fun hg => ?_) <;> conv => whnf) | (refine gs_nb (fun hg => ?_) (fun hg => ?_) <;> conv => whnf) | (refine gs_b (fun hg => ?_) (fun hg => ?_) <;> conv => whnf) | refine fin1 rfl rfl ?_))
    refine wl_bit (r := ((_ ||| 2 ^ (m % 64) : Nat) : Int)) (bits_or_u64_nat _ _ hw5 hpow) rfl rfl rfl rfl rfl rfl rfl (run_l tabOk ?_); conv => whnf
    (repeat' (first | (refine wl_Xn tabOk 82 2 rfl rfl rfl rfl rfl rfl rfl (by omega) (run_l tabOk ?_); conv => whnf) | (refine wl_add rfl rfl rfl rfl rfl rfl (by omega) (by omega) (run_l tabOk ?_); conv => whnf) | (refine wl_sub rfl rfl rfl rfl rfl rfl (by omega) (by omega) (run_l tabOk ?_); conv => whnf) | (refine wl_cvA tabOk rfl rfl rfl (by simp only [inK]; omega) rfl rfl rfl (run_l tabOk ?_); conv => whnf) | (refine wl_cvB tabOk rfl rfl rfl rfl rfl rfl (run_l tabOk ?_); conv => whnf) | (refine wl_rem rfl rfl rfl rfl rfl rfl (by omega) (by omega) (fun r hr hr0 hr1 hr2 => run_l tabOk ?_); conv => whnf) | (refine wl_quo rfl rfl rfl rfl rfl rfl (by omega) (by omega) (by simp only [inK]; omega) (run_l tabOk ?_); conv => whnf) | (refine wl_mul rfl rfl rfl rfl rfl rfl (by omega) (by omega) (run_l tabOk ?_); conv => whnf) | (refine gs_dt (by first | assumption | omega) ?_; conv => whnf) | (refine gs_df (by first | assumption | omega) ?_; conv => whnf) | (refine gs_t (by assumption) ?_; conv => whnf) | (refine gs_f (by assumption) ?_; conv => whnf) | (refine gs_d (fun hg => ?_) (fun hg => ?_) <;> conv => whnf) | (refine gs_n (fun hg => ?_) (fun hg => ?_) <;> conv => whnf) | (refine gs_nb (fun hg => ?_) (fun hg => ?_) <;> conv => whnf) | (refine gs_b (fun hg => ?_) (fun hg => ?_) <;> conv => whnf) | refine fin1 rfl rfl ?_))
    refine wl_SFr tabOk 1 hcur rfl rfl rfl rfl rfl rfl (by omega) rfl rfl ?_
    intro w6 hp6
    refine run_l tabOk ?_
    conv => whnf
    (repeat' (first | (refine wl_add rfl rfl rfl rfl rfl rfl (by omega) (by omega) (run_l tabOk ?_); conv => whnf) | (refine wl_sub rfl rfl rfl rfl rfl rfl (by omega) (by omega) (run_l tabOk ?_); conv => whnf) | (refine wl_cvA tabOk rfl rfl rfl (by simp only [inK]; omega) rfl rfl rfl (run_l tabOk ?_); conv => whnf) | (refine wl_cvB tabOk rfl rfl rfl rfl rfl rfl (run_l tabOk ?_); conv => whnf) | (refine wl_rem rfl rfl rfl rfl rfl rfl (by omega) (by omega) (fun r hr hr0 hr1 hr2 => run_l tabOk ?_); conv => whnf) | (refine wl_quo rfl rfl rfl rfl rfl rfl (by omega) (by omega) (by simp only [inK]; omega) (run_l tabOk ?_); conv => whnf) | (refine wl_mul rfl rfl rfl rfl rfl rfl (by omega) (by omega) (run_l tabOk ?_); conv => whnf) | (refine gs_dt (by first | assumption | omega) ?_; conv => whnf) | (refine gs_df (by first | assumption | omega) ?_; conv => whnf) | (refine gs_t (by assumption) ?_; conv => whnf) | (refine gs_f (by assumption) ?_; conv => whnf) | (refine gs_d (fun hg => ?_) (fun hg => ?_) <;> conv => whnf) | (refine gs_n (fun hg => ?_) (fun hg => ?_) <;> conv => whnf) | (refine gs_nb (fun hg => ?_) (fun hg => ?_) <;> conv => whnf) | (refine gs_b (fun hg => ?_) (fun hg => ?_) <;> conv => whnf) | refine fin1 rfl rfl ?_))
    refine wl_bit (r := ((_ &&& 2 ^ (m % 64) : Nat) : Int)) (bits_and_u64_nat _ _ hw5 hpow) rfl rfl rfl rfl rfl rfl rfl (run_l tabOk ?_); conv => whnf
    (repeat' (first | (refine wl_add rfl rfl rfl rfl rfl rfl (by omega) (by omega) (run_l tabOk ?_); conv => whnf) | (refine wl_sub rfl rfl rfl rfl rfl rfl (by omega) (by omega) (run_l tabOk ?_); conv => whnf) | (refine wl_cvA tabOk rfl rfl rfl (by simp only [inK]; omega) rfl rfl rfl (run_l tabOk ?_); conv => whnf) | (refine wl_cvB tabOk rfl rfl rfl rfl rfl rfl (run_l tabOk ?_); conv => whnf) | (refine wl_rem rfl rfl rfl rfl rfl rfl (by omega) (by omega) (fun r hr hr0 hr1 hr2 => run_l tabOk ?_); conv => whnf) | (refine wl_quo rfl rfl rfl rfl rfl rfl (by omega) (by omega) (by simp only [inK]; omega) (run_l tabOk ?_); conv => whnf) | (refine wl_mul rfl rfl rfl rfl rfl rfl (by omega) (by omega) (run_l tabOk ?_); conv => whnf) | (refine gs_dt (by first | assumption | omega) ?_; conv => whnf) | (refine gs_df (by first | assumption | omega) ?_; conv => whnf) | (refine gs_t (by assumption) ?_; conv => whnf) | (refine gs_f (by assumption) ?_; conv => whnf) | (refine gs_d (fun hg => ?_) (fun hg => ?_) <;> conv => whnf) | (refine gs_n (fun hg => ?_) (fun hg => ?_) <;> conv => whnf) | (refine gs_nb (fun hg => ?_) (fun hg => ?_) <;> conv => whnf) | (refine gs_b (fun hg => ?_) (fun hg => ?_) <;> conv => whnf) | refine fin1 rfl rfl ?_))
    have ho6 := ownsB_set ho5 hcur hi5 hp6
    have hgb5 : gb ≠ g := fun e => hne5 (by rw [e]; rfl)
    refine ⟨_, g :: [gb], ⟨?_, ⟨⟨_, ?_, ho6, rfl, hne5⟩, hP.ge, hres5.1⟩, hk5.put hp6 (hnew5 gb rfl), ?_, fun k => ?_, by simpa using hlen5⟩⟩
    · rw [and_pow, hold5]
      simp
    · have := hp6.old hb5 (fun e => hgb5 e.symm)
      simpa using this
    · intro b hb'
      rcases List.mem_cons.1 hb' with rfl | hb'
      · exact .inl (by rw [hfp]; simp)
      · rw [List.mem_singleton.1 hb']
        exact hnew5 gb rfl
    · rw [hres5.2 k]
      congr 1
      rw [decide_eq_decide]
      omega
  · have hok := hok.symm
    rw [Bool.and_eq_true, decide_eq_true_eq, decide_eq_true_eq] at hok
    obtain ⟨hi5, he⟩ := hok
    have hrg := hP.wf.rng _ (mem_getB hi5)
    have hres5 := add_there hP.wf hi5 (n := m) (by omega)
    have hold5 : bs[i]!.w.testBit (m % 64) = memB bs m := (hP.wf.at_ hi5 (by omega)).symm
    have hk5 : Kept fp w w2 := Kept.of hB
    have hnew5 : ∀ b, (Value.slice A bs.length c).ownBlock = some b → b ∈ fp ∨ w.heap.size ≤ b := fun b e => .inl (by rw [hfp]; simp [e])
    have hlen5 : bs.length ≤ bs.length + 1 := by omega
    have hw5 := hrg.2.2.2
    have hb5 := hb2
    have ho5 := ho2
    have hne5 := hne
    (repeat' (first | (refine wl_add rfl rfl rfl rfl rfl rfl (by omega) (by omega) (run_l tabOk ?_); conv => whnf) | (refine wl_sub rfl rfl rfl rfl rfl rfl (by omega) (by omega) (run_l tabOk ?_); conv => whnf) | (refine wl_cvA tabOk rfl rfl rfl (by simp only [inK]; omega) rfl rfl rfl (run_l tabOk ?_); conv => whnf) | (refine wl_cvB tabOk rfl rfl rfl rfl rfl rfl (run_l tabOk ?_); conv => whnf) | (refine wl_rem rfl rfl rfl rfl rfl rfl (by omega) (by omega) (fun r hr hr0 hr1 hr2 => run_l tabOk ?_); conv => whnf) | (refine wl_quo rfl rfl rfl rfl rfl rfl (by omega) (by omega) (by simp only [inK]; omega) (run_l tabOk ?_); conv => whnf) | (refine wl_mul rfl rfl rfl rfl rfl rfl (by omega) (by omega) (run_l tabOk ?_); conv => whnf) | (refine gs_dt (by first | assumption | omega) ?_; conv => whnf) | (refine gs_df (by first | assumption | omega) ?_; conv => whnf) | (refine gs_t (by assumption) ?_; conv => whnf) | (refine gs_f (by assumption) ?_; conv => whnf) | (refine gs_d (fun hg => ?_) (fun hg => ?_) <;> conv => whnf) | (refine gs_n (fun hg => ?_) (fun hg => ?_) <;> conv => whnf) | (refine gs_nb (fun hg => ?_) (fun hg => ?_) <;> conv => whnf) | (refine gs_b (fun hg => ?_) (fun hg => ?_) <;> conv => whnf) | refine fin1 rfl rfl ?_))
    have hform := ownsB.blkform ho5 (by omega)
    obtain ⟨gb, cur, rfl, hcur, hcl, hbc⟩ := hform
    obtain ⟨_, hc5, hrow5⟩ := ownsB.rowAt ho5
    obtain ⟨ad, e, _, hc⟩ := rowB_f hrow5 i hi5
    cases e
    refine wl_shl (r := ((2 ^ (m % 64) : Nat) : Int)) (shl_one 0 (m % 64) _ (by omega) (by omega)) rfl rfl rfl (by omega) rfl rfl rfl (run_l tabOk ?_); conv => whnf
    (repeat' (first | (refine wl_Lg tabOk hb5 rfl rfl rfl rfl rfl rfl rfl (run_l tabOk ?_); conv => whnf) | (refine wl_L tabOk rfl rfl rfl rfl rfl rfl hc (run_l tabOk ?_); conv => whnf) | (refine wl_Xn tabOk 82 2 rfl rfl rfl rfl rfl rfl rfl (by omega) (run_l tabOk ?_); conv => whnf) | (refine wl_add rfl rfl rfl rfl rfl rfl (by omega) (by omega) (run_l tabOk ?_); conv => whnf) | (refine wl_sub rfl rfl rfl rfl rfl rfl (by omega) (by omega) (run_l tabOk ?_); conv => whnf) | (refine wl_cvA tabOk rfl rfl rfl (by simp only [inK]; omega) rfl rfl rfl (run_l tabOk ?_); conv => whnf) | (refine wl_cvB tabOk rfl rfl rfl rfl rfl rfl (run_l tabOk ?_); conv => whnf) | (refine wl_rem rfl rfl rfl rfl rfl rfl (by omega) (by omega) (fun r hr hr0 hr1 hr2 => run_l tabOk ?_); conv => whnf) | (refine wl_quo rfl rfl rfl rfl rfl rfl (by omega) (by omega) (by simp only [inK]; omega) (run_l tabOk ?_); conv => whnf) | (refine wl_mul rfl rfl rfl rfl rfl rfl (by omega) (by omega) (run_l tabOk ?_); conv => whnf) | (refine gs_dt (by first | assumption | omega) ?_; conv => whnf) | (refine gs_df (by first | assumption | omega) ?_; conv => whnf) | (refine gs_t (by assumption) ?_; conv => whnf) | (refine gs_f (by assumption) ?_; conv => whnf) | (refine gs_d (fun hg => ?_) (fun hg => ?_) <;> conv => whnf) | (refine gs_n (fun hg => ?_) (fun hg => ?_) <;> conv => whnf) | (refine gs_nb (fun hg => ?_) (fun hg => ?_) <;> conv => whnf) | (refine gs_b (fun hg => ?_) (fun hg => ?_) <;> conv => whnf) | refine fin1 rfl rfl ?_))
    refine wl_bit (r := ((_ ||| 2 ^ (m % 64) : Nat) : Int)) (bits_or_u64_nat _ _ hw5 hpow) rfl rfl rfl rfl rfl rfl rfl (run_l tabOk ?_); conv => whnf
    (repeat' (first | (refine wl_Xn tabOk 82 2 rfl rfl rfl rfl rfl rfl rfl (by omega) (run_l tabOk ?_); conv => whnf) | (refine wl_add rfl rfl rfl rfl rfl rfl (by omega) (by omega) (run_l tabOk ?_); conv => whnf) | (refine wl_sub rfl rfl rfl rfl rfl rfl (by omega) (by omega) (run_l tabOk ?_); conv => whnf) | (refine wl_cvA tabOk rfl rfl rfl (by simp only [inK]; omega) rfl rfl rfl (run_l tabOk ?_); conv => whnf) | (refine wl_cvB tabOk rfl rfl rfl rfl rfl rfl (run_l tabOk ?_); conv => whnf) | (refine wl_rem rfl rfl rfl rfl rfl rfl (by omega) (by omega) (fun r hr hr0 hr1 hr2 => run_l tabOk ?_); conv => whnf) | (refine wl_quo rfl rfl rfl rfl rfl rfl (by omega) (by omega) (by simp only [inK]; omega) (run_l tabOk ?_); conv => whnf) | (refine wl_mul rfl rfl rfl rfl rfl rfl (by omega) (by omega) (run_l tabOk ?_); conv => whnf) | (refine gs_dt (by first | assumption | omega) ?_; conv => whnf) | (refine gs_df (by first | assumption | omega) ?_; conv => whnf) | (refine gs_t (by assumption) ?_; conv => whnf) | (refine gs_f (by assumption) ?_; conv => whnf) | (refine gs_d (fun hg => ?_) (fun hg => ?_) <;> conv => whnf) | (refine gs_n (fun hg => ?_) (fun hg => ?_) <;> conv => whnf) | (refine gs_nb (fun hg => ?_) (fun hg => ?_) <;> conv => whnf) | (refine gs_b (fun hg => ?_) (fun hg => ?_) <;> conv => whnf) | refine fin1 rfl rfl ?_))
    refine wl_SFr tabOk 1 hcur rfl rfl rfl rfl rfl rfl (by omega) rfl rfl ?_
    intro w6 hp6
    refine run_l tabOk ?_
    conv => whnf
    (repeat' (first | (refine wl_add rfl rfl rfl rfl rfl rfl (by omega) (by omega) (run_l tabOk ?_); conv => whnf) | (refine wl_sub rfl rfl rfl rfl rfl rfl (by omega) (by omega) (run_l tabOk ?_); conv => whnf) | (refine wl_cvA tabOk rfl rfl rfl (by simp only [inK]; omega) rfl rfl rfl (run_l tabOk ?_); conv => whnf) | (refine wl_cvB tabOk rfl rfl rfl rfl rfl rfl (run_l tabOk ?_); conv => whnf) | (refine wl_rem rfl rfl rfl rfl rfl rfl (by omega) (by omega) (fun r hr hr0 hr1 hr2 => run_l tabOk ?_); conv => whnf) | (refine wl_quo rfl rfl rfl rfl rfl rfl (by omega) (by omega) (by simp only [inK]; omega) (run_l tabOk ?_); conv => whnf) | (refine wl_mul rfl rfl rfl rfl rfl rfl (by omega) (by omega) (run_l tabOk ?_); conv => whnf) | (refine gs_dt (by first | assumption | omega) ?_; conv => whnf) | (refine gs_df (by first | assumption | omega) ?_; conv => whnf) | (refine gs_t (by assumption) ?_; conv => whnf) | (refine gs_f (by assumption) ?_; conv => whnf) | (refine gs_d (fun hg => ?_) (fun hg => ?_) <;> conv => whnf) | (refine gs_n (fun hg => ?_) (fun hg => ?_) <;> conv => whnf) | (refine gs_nb (fun hg => ?_) (fun hg => ?_) <;> conv => whnf) | (refine gs_b (fun hg => ?_) (fun hg => ?_) <;> conv => whnf) | refine fin1 rfl rfl ?_))
    refine wl_bit (r := ((_ &&& 2 ^ (m % 64) : Nat) : Int)) (bits_and_u64_nat _ _ hw5 hpow) rfl rfl rfl rfl rfl rfl rfl (run_l tabOk ?_); conv => whnf
    (repeat' (first | (refine wl_add rfl rfl rfl rfl rfl rfl (by omega) (by omega) (run_l tabOk ?_); conv => whnf) | (refine wl_sub rfl rfl rfl rfl rfl rfl (by omega) (by omega) (run_l tabOk ?_); conv => whnf) | (refine wl_cvA tabOk rfl rfl rfl (by simp only [inK]; omega) rfl rfl rfl (run_l tabOk ?_); conv => whnf) | (refine wl_cvB tabOk rfl rfl rfl rfl rfl rfl (run_l tabOk ?_); conv => whnf) | (refine wl_rem rfl rfl rfl rfl rfl rfl (by omega) (by omega) (fun r hr hr0 hr1 hr2 => run_l tabOk ?_); conv => whnf) | (refine wl_quo rfl rfl rfl rfl rfl rfl (by omega) (by omega) (by simp only [inK]; omega) (run_l tabOk ?_); conv => whnf) | (refine wl_mul rfl rfl rfl rfl rfl rfl (by omega) (by omega) (run_l tabOk ?_); conv => whnf) | (refine gs_dt (by first | assumption | omega) ?_; conv => whnf) | (refine gs_df (by first | assumption | omega) ?_; conv => whnf) | (refine gs_t (by assumption) ?_; conv => whnf) | (refine gs_f (by assumption) ?_; conv => whnf) | (refine gs_d (fun hg => ?_) (fun hg => ?_) <;> conv => whnf) | (refine gs_n (fun hg => ?_) (fun hg => ?_) <;> conv => whnf) | (refine gs_nb (fun hg => ?_) (fun hg => ?_) <;> conv => whnf) | (refine gs_b (fun hg => ?_) (fun hg => ?_) <;> conv => whnf) | refine fin1 rfl rfl ?_))
    have ho6 := ownsB_set ho5 hcur hi5 hp6
    have hgb5 : gb ≠ g := fun e => hne5 (by rw [e]; rfl)
    refine ⟨_, g :: [gb], ⟨?_, ⟨⟨_, ?_, ho6, rfl, hne5⟩, hP.ge, hres5.1⟩, hk5.put hp6 (hnew5 gb rfl), ?_, fun k => ?_, by simpa using hlen5⟩⟩
    · rw [and_pow, hold5]
      simp
    · have := hp6.old hb5 (fun e => hgb5 e.symm)
      simpa using this
    · intro b hb'
      rcases List.mem_cons.1 hb' with rfl | hb'
      · exact .inl (by rw [hfp]; simp)
      · rw [List.mem_singleton.1 hb']
        exact hnew5 gb rfl
    · rw [hres5.2 k]
      congr 1
      rw [decide_eq_decide]
      omega
end Go.Proofs.Ytjggjhgbobmkhaa

/- math/bits.OnesCount64, TrailingZeros64; pile: Len, All. -/
namespace Go.Proofs.Ytjggjhgbobmkhaa
open Go.RowKit
set_option linter.unusedVariables false
set_option linter.unusedSimpArgs false
set_option maxRecDepth 100000
theorem band (a b : Nat) (bi : Int) (hb : bi = (b : Int)) (h1 : a < 18446744073709551616) (h2 : b < 18446744073709551616) : bits .and .u64 (a : Int) bi = ((a &&& b : Nat) : Int) := by
  subst hb
  exact bits_and_u64_nat a b h1 h2
theorem addu {a b c : Nat} (hc : c = a + b) (h : c < 18446744073709551616) : IntKind.u64.wrap ((a : Int) + (b : Int)) = (c : Int) := by
  rw [IntKind.wrap_u64]; omega
theorem band_i64 (a b : Nat) (bi : Int) (hb : bi = (b : Int)) (h1 : a < 9223372036854775808) (h2 : b < 9223372036854775808) : bits .and .i64 (a : Int) bi = ((a &&& b : Nat) : Int) := by
  subst hb
  have hx : a &&& b < 2 ^ 63 := Nat.and_lt_two_pow _ (by omega)
  have e1 : (BitVec.ofInt 64 (a : Int)).toNat = a := by
    rw [BitVec.ofInt_natCast, BitVec.toNat_ofNat]; exact Nat.mod_eq_of_lt (by omega)
  have e2 : (BitVec.ofInt 64 (b : Int)).toNat = b := by
    rw [BitVec.ofInt_natCast, BitVec.toNat_ofNat]; exact Nat.mod_eq_of_lt (by omega)
  show IntKind.i64.wrap ((BitVec.ofInt 64 (a : Int) &&& BitVec.ofInt 64 (b : Int)).toNat : Int) = _
  rw [BitVec.toNat_and, e1, e2, IntKind.wrap_i64]
  omega
set_option maxHeartbeats 4000000 in
theorem pOnes (x : Nat) (hx : x < 18446744073709551616) (w : World) :
    Calls Try.prog 41 #[.int .u64 (x : Int)] w fun e w' => e = .returned (.int .i64 ((bitsOf x).length : Nat)) ∧ Below w.heap.size w w' := by
  obtain ⟨x1, x2, x3, x4, x5, x6, e1, e2, e3, e4, e5, e6, l1, l2, l3, l4, l5, l6, hf⟩ := pop64 hx
  have q1 : x >>> 1 &&& 6148914691236517205 < 18446744073709551616 := Nat.lt_of_le_of_lt Nat.and_le_right (by decide)
  have l3' : x3 < 18446744073709551616 := by rw [e3]; exact Nat.lt_of_le_of_lt Nat.and_le_right (by decide)
  refine enterR (args := [.int .u64 (x : Int)]) tabOk Try.func41 rfl Try.ntmps41 rfl ?_; conv => whnf
  (repeat' (first | (refine wl_add rfl rfl rfl rfl rfl rfl (by omega) (by omega) (run_l tabOk ?_); conv => whnf) | (refine wl_sub rfl rfl rfl rfl rfl rfl (by omega) (by omega) (run_l tabOk ?_); conv => whnf) | (refine wl_cvA tabOk rfl rfl rfl (by simp only [inK]; omega) rfl rfl rfl (run_l tabOk ?_); conv => whnf) | (refine wl_cvB tabOk rfl rfl rfl rfl rfl rfl (run_l tabOk ?_); conv => whnf) | (refine wl_rem rfl rfl rfl rfl rfl rfl (by omega) (by omega) (fun r hr hr0 hr1 hr2 => run_l tabOk ?_); conv => whnf) | (refine wl_quo rfl rfl rfl rfl rfl rfl (by omega) (by omega) (by simp only [inK]; omega) (run_l tabOk ?_); conv => whnf) | (refine wl_mul rfl rfl rfl rfl rfl rfl (by omega) (by omega) (run_l tabOk ?_); conv => whnf) | (refine gs_dt (by first | assumption | omega) ?_; conv => whnf) | (refine gs_df (by first | assumption | omega) ?_; conv => whnf) | (refine gs_t (by assumption) ?_; conv => whnf) | (refine gs_f (by assumption) ?_; conv => whnf) | (refine gs_d (fun hg => ?_) (fun hg => ?_) <;> conv => whnf) | (refine gs_n (fun hg => ?_) (fun hg => ?_) <;> conv => whnf) | (refine gs_nb (fun hg => ?_) (fun hg => ?_) <;> conv => whnf) | (refine gs_b (fun hg => ?_) (fun hg => ?_) <;> conv => whnf) | refine fin1 rfl rfl ?_))
  refine wl_shr (r := ((x >>> 1 : Nat) : Int)) (shr_u64 x 1 1 rfl (by omega)) rfl rfl rfl (by omega) rfl rfl rfl (run_l tabOk ?_); conv => whnf
  refine wl_bit (r := ((x >>> 1 &&& 6148914691236517205 : Nat) : Int)) (band _ 6148914691236517205 6148914691236517205 rfl (shr_le _ _ hx) (by omega)) rfl rfl rfl rfl rfl rfl rfl (run_l tabOk ?_); conv => whnf
  (repeat' (first | (refine wl_add rfl rfl rfl rfl rfl rfl (by omega) (by omega) (run_l tabOk ?_); conv => whnf) | (refine wl_sub rfl rfl rfl rfl rfl rfl (by omega) (by omega) (run_l tabOk ?_); conv => whnf) | (refine wl_cvA tabOk rfl rfl rfl (by simp only [inK]; omega) rfl rfl rfl (run_l tabOk ?_); conv => whnf) | (refine wl_cvB tabOk rfl rfl rfl rfl rfl rfl (run_l tabOk ?_); conv => whnf) | (refine wl_rem rfl rfl rfl rfl rfl rfl (by omega) (by omega) (fun r hr hr0 hr1 hr2 => run_l tabOk ?_); conv => whnf) | (refine wl_quo rfl rfl rfl rfl rfl rfl (by omega) (by omega) (by simp only [inK]; omega) (run_l tabOk ?_); conv => whnf) | (refine wl_mul rfl rfl rfl rfl rfl rfl (by omega) (by omega) (run_l tabOk ?_); conv => whnf) | (refine gs_dt (by first | assumption | omega) ?_; conv => whnf) | (refine gs_df (by first | assumption | omega) ?_; conv => whnf) | (refine gs_t (by assumption) ?_; conv => whnf) | (refine gs_f (by assumption) ?_; conv => whnf) | (refine gs_d (fun hg => ?_) (fun hg => ?_) <;> conv => whnf) | (refine gs_n (fun hg => ?_) (fun hg => ?_) <;> conv => whnf) | (refine gs_nb (fun hg => ?_) (fun hg => ?_) <;> conv => whnf) | (refine gs_b (fun hg => ?_) (fun hg => ?_) <;> conv => whnf) | refine fin1 rfl rfl ?_))
  refine wl_bit (r := ((x &&& 6148914691236517205 : Nat) : Int)) (band _ 6148914691236517205 6148914691236517205 rfl hx (by omega)) rfl rfl rfl rfl rfl rfl rfl (run_l tabOk ?_); conv => whnf
  refine wl_addr (r := (x1 : Int)) (addu e1 l1) rfl rfl rfl rfl rfl rfl (run_l tabOk ?_); conv => whnf
  (repeat' (first | (refine wl_add rfl rfl rfl rfl rfl rfl (by omega) (by omega) (run_l tabOk ?_); conv => whnf) | (refine wl_sub rfl rfl rfl rfl rfl rfl (by omega) (by omega) (run_l tabOk ?_); conv => whnf) | (refine wl_cvA tabOk rfl rfl rfl (by simp only [inK]; omega) rfl rfl rfl (run_l tabOk ?_); conv => whnf) | (refine wl_cvB tabOk rfl rfl rfl rfl rfl rfl (run_l tabOk ?_); conv => whnf) | (refine wl_rem rfl rfl rfl rfl rfl rfl (by omega) (by omega) (fun r hr hr0 hr1 hr2 => run_l tabOk ?_); conv => whnf) | (refine wl_quo rfl rfl rfl rfl rfl rfl (by omega) (by omega) (by simp only [inK]; omega) (run_l tabOk ?_); conv => whnf) | (refine wl_mul rfl rfl rfl rfl rfl rfl (by omega) (by omega) (run_l tabOk ?_); conv => whnf) | (refine gs_dt (by first | assumption | omega) ?_; conv => whnf) | (refine gs_df (by first | assumption | omega) ?_; conv => whnf) | (refine gs_t (by assumption) ?_; conv => whnf) | (refine gs_f (by assumption) ?_; conv => whnf) | (refine gs_d (fun hg => ?_) (fun hg => ?_) <;> conv => whnf) | (refine gs_n (fun hg => ?_) (fun hg => ?_) <;> conv => whnf) | (refine gs_nb (fun hg => ?_) (fun hg => ?_) <;> conv => whnf) | (refine gs_b (fun hg => ?_) (fun hg => ?_) <;> conv => whnf) | refine fin1 rfl rfl ?_))
  refine wl_shr (r := ((x1 >>> 2 : Nat) : Int)) (shr_u64 x1 2 2 rfl (by omega)) rfl rfl rfl (by omega) rfl rfl rfl (run_l tabOk ?_); conv => whnf
  refine wl_bit (r := ((x1 >>> 2 &&& 3689348814741910323 : Nat) : Int)) (band _ 3689348814741910323 3689348814741910323 rfl (shr_le _ _ l1) (by omega)) rfl rfl rfl rfl rfl rfl rfl (run_l tabOk ?_); conv => whnf
  (repeat' (first | (refine wl_add rfl rfl rfl rfl rfl rfl (by omega) (by omega) (run_l tabOk ?_); conv => whnf) | (refine wl_sub rfl rfl rfl rfl rfl rfl (by omega) (by omega) (run_l tabOk ?_); conv => whnf) | (refine wl_cvA tabOk rfl rfl rfl (by simp only [inK]; omega) rfl rfl rfl (run_l tabOk ?_); conv => whnf) | (refine wl_cvB tabOk rfl rfl rfl rfl rfl rfl (run_l tabOk ?_); conv => whnf) | (refine wl_rem rfl rfl rfl rfl rfl rfl (by omega) (by omega) (fun r hr hr0 hr1 hr2 => run_l tabOk ?_); conv => whnf) | (refine wl_quo rfl rfl rfl rfl rfl rfl (by omega) (by omega) (by simp only [inK]; omega) (run_l tabOk ?_); conv => whnf) | (refine wl_mul rfl rfl rfl rfl rfl rfl (by omega) (by omega) (run_l tabOk ?_); conv => whnf) | (refine gs_dt (by first | assumption | omega) ?_; conv => whnf) | (refine gs_df (by first | assumption | omega) ?_; conv => whnf) | (refine gs_t (by assumption) ?_; conv => whnf) | (refine gs_f (by assumption) ?_; conv => whnf) | (refine gs_d (fun hg => ?_) (fun hg => ?_) <;> conv => whnf) | (refine gs_n (fun hg => ?_) (fun hg => ?_) <;> conv => whnf) | (refine gs_nb (fun hg => ?_) (fun hg => ?_) <;> conv => whnf) | (refine gs_b (fun hg => ?_) (fun hg => ?_) <;> conv => whnf) | refine fin1 rfl rfl ?_))
  refine wl_bit (r := ((x1 &&& 3689348814741910323 : Nat) : Int)) (band _ 3689348814741910323 3689348814741910323 rfl l1 (by omega)) rfl rfl rfl rfl rfl rfl rfl (run_l tabOk ?_); conv => whnf
  refine wl_addr (r := (x2 : Int)) (addu e2 (by omega)) rfl rfl rfl rfl rfl rfl (run_l tabOk ?_); conv => whnf
  (repeat' (first | (refine wl_add rfl rfl rfl rfl rfl rfl (by omega) (by omega) (run_l tabOk ?_); conv => whnf) | (refine wl_sub rfl rfl rfl rfl rfl rfl (by omega) (by omega) (run_l tabOk ?_); conv => whnf) | (refine wl_cvA tabOk rfl rfl rfl (by simp only [inK]; omega) rfl rfl rfl (run_l tabOk ?_); conv => whnf) | (refine wl_cvB tabOk rfl rfl rfl rfl rfl rfl (run_l tabOk ?_); conv => whnf) | (refine wl_rem rfl rfl rfl rfl rfl rfl (by omega) (by omega) (fun r hr hr0 hr1 hr2 => run_l tabOk ?_); conv => whnf) | (refine wl_quo rfl rfl rfl rfl rfl rfl (by omega) (by omega) (by simp only [inK]; omega) (run_l tabOk ?_); conv => whnf) | (refine wl_mul rfl rfl rfl rfl rfl rfl (by omega) (by omega) (run_l tabOk ?_); conv => whnf) | (refine gs_dt (by first | assumption | omega) ?_; conv => whnf) | (refine gs_df (by first | assumption | omega) ?_; conv => whnf) | (refine gs_t (by assumption) ?_; conv => whnf) | (refine gs_f (by assumption) ?_; conv => whnf) | (refine gs_d (fun hg => ?_) (fun hg => ?_) <;> conv => whnf) | (refine gs_n (fun hg => ?_) (fun hg => ?_) <;> conv => whnf) | (refine gs_nb (fun hg => ?_) (fun hg => ?_) <;> conv => whnf) | (refine gs_b (fun hg => ?_) (fun hg => ?_) <;> conv => whnf) | refine fin1 rfl rfl ?_))
  refine wl_shr (r := ((x2 >>> 4 : Nat) : Int)) (shr_u64 x2 4 4 rfl (by omega)) rfl rfl rfl (by omega) rfl rfl rfl (run_l tabOk ?_); conv => whnf
  (repeat' (first | (refine wl_add rfl rfl rfl rfl rfl rfl (by omega) (by omega) (run_l tabOk ?_); conv => whnf) | (refine wl_sub rfl rfl rfl rfl rfl rfl (by omega) (by omega) (run_l tabOk ?_); conv => whnf) | (refine wl_cvA tabOk rfl rfl rfl (by simp only [inK]; omega) rfl rfl rfl (run_l tabOk ?_); conv => whnf) | (refine wl_cvB tabOk rfl rfl rfl rfl rfl rfl (run_l tabOk ?_); conv => whnf) | (refine wl_rem rfl rfl rfl rfl rfl rfl (by omega) (by omega) (fun r hr hr0 hr1 hr2 => run_l tabOk ?_); conv => whnf) | (refine wl_quo rfl rfl rfl rfl rfl rfl (by omega) (by omega) (by simp only [inK]; omega) (run_l tabOk ?_); conv => whnf) | (refine wl_mul rfl rfl rfl rfl rfl rfl (by omega) (by omega) (run_l tabOk ?_); conv => whnf) | (refine gs_dt (by first | assumption | omega) ?_; conv => whnf) | (refine gs_df (by first | assumption | omega) ?_; conv => whnf) | (refine gs_t (by assumption) ?_; conv => whnf) | (refine gs_f (by assumption) ?_; conv => whnf) | (refine gs_d (fun hg => ?_) (fun hg => ?_) <;> conv => whnf) | (refine gs_n (fun hg => ?_) (fun hg => ?_) <;> conv => whnf) | (refine gs_nb (fun hg => ?_) (fun hg => ?_) <;> conv => whnf) | (refine gs_b (fun hg => ?_) (fun hg => ?_) <;> conv => whnf) | refine fin1 rfl rfl ?_))
  refine wl_addr (r := ((x2 >>> 4 + x2 : Nat) : Int)) (addu rfl l3) rfl rfl rfl rfl rfl rfl (run_l tabOk ?_); conv => whnf
  refine wl_bit (r := (x3 : Int)) (by rw [band _ 1085102592571150095 1085102592571150095 rfl l3 (by omega), e3]) rfl rfl rfl rfl rfl rfl rfl (run_l tabOk ?_); conv => whnf
  (repeat' (first | (refine wl_add rfl rfl rfl rfl rfl rfl (by omega) (by omega) (run_l tabOk ?_); conv => whnf) | (refine wl_sub rfl rfl rfl rfl rfl rfl (by omega) (by omega) (run_l tabOk ?_); conv => whnf) | (refine wl_cvA tabOk rfl rfl rfl (by simp only [inK]; omega) rfl rfl rfl (run_l tabOk ?_); conv => whnf) | (refine wl_cvB tabOk rfl rfl rfl rfl rfl rfl (run_l tabOk ?_); conv => whnf) | (refine wl_rem rfl rfl rfl rfl rfl rfl (by omega) (by omega) (fun r hr hr0 hr1 hr2 => run_l tabOk ?_); conv => whnf) | (refine wl_quo rfl rfl rfl rfl rfl rfl (by omega) (by omega) (by simp only [inK]; omega) (run_l tabOk ?_); conv => whnf) | (refine wl_mul rfl rfl rfl rfl rfl rfl (by omega) (by omega) (run_l tabOk ?_); conv => whnf) | (refine gs_dt (by first | assumption | omega) ?_; conv => whnf) | (refine gs_df (by first | assumption | omega) ?_; conv => whnf) | (refine gs_t (by assumption) ?_; conv => whnf) | (refine gs_f (by assumption) ?_; conv => whnf) | (refine gs_d (fun hg => ?_) (fun hg => ?_) <;> conv => whnf) | (refine gs_n (fun hg => ?_) (fun hg => ?_) <;> conv => whnf) | (refine gs_nb (fun hg => ?_) (fun hg => ?_) <;> conv => whnf) | (refine gs_b (fun hg => ?_) (fun hg => ?_) <;> conv => whnf) | refine fin1 rfl rfl ?_))
  refine wl_shr (r := ((x3 / 256 : Nat) : Int)) (by rw [shr_u64 x3 8 8 rfl (by omega), Nat.shiftRight_eq_div_pow]) rfl rfl rfl (by omega) rfl rfl rfl (run_l tabOk ?_); conv => whnf
  refine wl_addr (r := (x4 : Int)) (addu e4 (by omega)) rfl rfl rfl rfl rfl rfl (run_l tabOk ?_); conv => whnf
  (repeat' (first | (refine wl_add rfl rfl rfl rfl rfl rfl (by omega) (by omega) (run_l tabOk ?_); conv => whnf) | (refine wl_sub rfl rfl rfl rfl rfl rfl (by omega) (by omega) (run_l tabOk ?_); conv => whnf) | (refine wl_cvA tabOk rfl rfl rfl (by simp only [inK]; omega) rfl rfl rfl (run_l tabOk ?_); conv => whnf) | (refine wl_cvB tabOk rfl rfl rfl rfl rfl rfl (run_l tabOk ?_); conv => whnf) | (refine wl_rem rfl rfl rfl rfl rfl rfl (by omega) (by omega) (fun r hr hr0 hr1 hr2 => run_l tabOk ?_); conv => whnf) | (refine wl_quo rfl rfl rfl rfl rfl rfl (by omega) (by omega) (by simp only [inK]; omega) (run_l tabOk ?_); conv => whnf) | (refine wl_mul rfl rfl rfl rfl rfl rfl (by omega) (by omega) (run_l tabOk ?_); conv => whnf) | (refine gs_dt (by first | assumption | omega) ?_; conv => whnf) | (refine gs_df (by first | assumption | omega) ?_; conv => whnf) | (refine gs_t (by assumption) ?_; conv => whnf) | (refine gs_f (by assumption) ?_; conv => whnf) | (refine gs_d (fun hg => ?_) (fun hg => ?_) <;> conv => whnf) | (refine gs_n (fun hg => ?_) (fun hg => ?_) <;> conv => whnf) | (refine gs_nb (fun hg => ?_) (fun hg => ?_) <;> conv => whnf) | (refine gs_b (fun hg => ?_) (fun hg => ?_) <;> conv => whnf) | refine fin1 rfl rfl ?_))
  refine wl_shr (r := ((x4 / 65536 : Nat) : Int)) (by rw [shr_u64 x4 16 16 rfl (by omega), Nat.shiftRight_eq_div_pow]) rfl rfl rfl (by omega) rfl rfl rfl (run_l tabOk ?_); conv => whnf
  refine wl_addr (r := (x5 : Int)) (addu e5 (by omega)) rfl rfl rfl rfl rfl rfl (run_l tabOk ?_); conv => whnf
  (repeat' (first | (refine wl_add rfl rfl rfl rfl rfl rfl (by omega) (by omega) (run_l tabOk ?_); conv => whnf) | (refine wl_sub rfl rfl rfl rfl rfl rfl (by omega) (by omega) (run_l tabOk ?_); conv => whnf) | (refine wl_cvA tabOk rfl rfl rfl (by simp only [inK]; omega) rfl rfl rfl (run_l tabOk ?_); conv => whnf) | (refine wl_cvB tabOk rfl rfl rfl rfl rfl rfl (run_l tabOk ?_); conv => whnf) | (refine wl_rem rfl rfl rfl rfl rfl rfl (by omega) (by omega) (fun r hr hr0 hr1 hr2 => run_l tabOk ?_); conv => whnf) | (refine wl_quo rfl rfl rfl rfl rfl rfl (by omega) (by omega) (by simp only [inK]; omega) (run_l tabOk ?_); conv => whnf) | (refine wl_mul rfl rfl rfl rfl rfl rfl (by omega) (by omega) (run_l tabOk ?_); conv => whnf) | (refine gs_dt (by first | assumption | omega) ?_; conv => whnf) | (refine gs_df (by first | assumption | omega) ?_; conv => whnf) | (refine gs_t (by assumption) ?_; conv => whnf) | (refine gs_f (by assumption) ?_; conv => whnf) | (refine gs_d (fun hg => ?_) (fun hg => ?_) <;> conv => whnf) | (refine gs_n (fun hg => ?_) (fun hg => ?_) <;> conv => whnf) | (refine gs_nb (fun hg => ?_) (fun hg => ?_) <;> conv => whnf) | (refine gs_b (fun hg => ?_) (fun hg => ?_) <;> conv => whnf) | refine fin1 rfl rfl ?_))
  refine wl_shr (r := ((x5 / 4294967296 : Nat) : Int)) (by rw [shr_u64 x5 32 32 rfl (by omega), Nat.shiftRight_eq_div_pow]) rfl rfl rfl (by omega) rfl rfl rfl (run_l tabOk ?_); conv => whnf
  refine wl_addr (r := (x6 : Int)) (addu e6 (by omega)) rfl rfl rfl rfl rfl rfl (run_l tabOk ?_); conv => whnf
  (repeat' (first | (refine wl_add rfl rfl rfl rfl rfl rfl (by omega) (by omega) (run_l tabOk ?_); conv => whnf) | (refine wl_sub rfl rfl rfl rfl rfl rfl (by omega) (by omega) (run_l tabOk ?_); conv => whnf) | (refine wl_cvA tabOk rfl rfl rfl (by simp only [inK]; omega) rfl rfl rfl (run_l tabOk ?_); conv => whnf) | (refine wl_cvB tabOk rfl rfl rfl rfl rfl rfl (run_l tabOk ?_); conv => whnf) | (refine wl_rem rfl rfl rfl rfl rfl rfl (by omega) (by omega) (fun r hr hr0 hr1 hr2 => run_l tabOk ?_); conv => whnf) | (refine wl_quo rfl rfl rfl rfl rfl rfl (by omega) (by omega) (by simp only [inK]; omega) (run_l tabOk ?_); conv => whnf) | (refine wl_mul rfl rfl rfl rfl rfl rfl (by omega) (by omega) (run_l tabOk ?_); conv => whnf) | (refine gs_dt (by first | assumption | omega) ?_; conv => whnf) | (refine gs_df (by first | assumption | omega) ?_; conv => whnf) | (refine gs_t (by assumption) ?_; conv => whnf) | (refine gs_f (by assumption) ?_; conv => whnf) | (refine gs_d (fun hg => ?_) (fun hg => ?_) <;> conv => whnf) | (refine gs_n (fun hg => ?_) (fun hg => ?_) <;> conv => whnf) | (refine gs_nb (fun hg => ?_) (fun hg => ?_) <;> conv => whnf) | (refine gs_b (fun hg => ?_) (fun hg => ?_) <;> conv => whnf) | refine fin1 rfl rfl ?_))
  refine wl_bit (r := ((bitsOf x).length : Int)) (by rw [band_i64 _ 127 127 rfl l6 (by omega), show (127 : Nat) = 2 ^ 7 - 1 from rfl, Nat.and_two_pow_sub_one_eq_mod]; exact congrArg _ hf) rfl rfl rfl rfl rfl rfl rfl (run_l tabOk ?_); conv => whnf
  (repeat' (first | (refine wl_add rfl rfl rfl rfl rfl rfl (by omega) (by omega) (run_l tabOk ?_); conv => whnf) | (refine wl_sub rfl rfl rfl rfl rfl rfl (by omega) (by omega) (run_l tabOk ?_); conv => whnf) | (refine wl_cvA tabOk rfl rfl rfl (by simp only [inK]; omega) rfl rfl rfl (run_l tabOk ?_); conv => whnf) | (refine wl_cvB tabOk rfl rfl rfl rfl rfl rfl (run_l tabOk ?_); conv => whnf) | (refine wl_rem rfl rfl rfl rfl rfl rfl (by omega) (by omega) (fun r hr hr0 hr1 hr2 => run_l tabOk ?_); conv => whnf) | (refine wl_quo rfl rfl rfl rfl rfl rfl (by omega) (by omega) (by simp only [inK]; omega) (run_l tabOk ?_); conv => whnf) | (refine wl_mul rfl rfl rfl rfl rfl rfl (by omega) (by omega) (run_l tabOk ?_); conv => whnf) | (refine gs_dt (by first | assumption | omega) ?_; conv => whnf) | (refine gs_df (by first | assumption | omega) ?_; conv => whnf) | (refine gs_t (by assumption) ?_; conv => whnf) | (refine gs_f (by assumption) ?_; conv => whnf) | (refine gs_d (fun hg => ?_) (fun hg => ?_) <;> conv => whnf) | (refine gs_n (fun hg => ?_) (fun hg => ?_) <;> conv => whnf) | (refine gs_nb (fun hg => ?_) (fun hg => ?_) <;> conv => whnf) | (refine gs_b (fun hg => ?_) (fun hg => ?_) <;> conv => whnf) | refine fin1 rfl rfl ?_))
  exact ⟨rfl, Below.refl _ _⟩
end Go.Proofs.Ytjggjhgbobmkhaa

/- pile: Len, All. -/
namespace Go.Proofs.Ytjggjhgbobmkhaa
open Go.RowKit
set_option linter.unusedVariables false
set_option linter.unusedSimpArgs false
set_option maxRecDepth 100000
theorem numsB_take {bs : List Blk} {i : Nat} (hi : i < bs.length) : numsB (bs.take (i + 1)) = numsB (bs.take i) ++ numsOf bs[i]! := by
  rw [take_nextB hi, numsB_snoc]
theorem numsOf_len (b : Blk) : (numsOf b).length = (bitsOf b.w).length := by simp [numsOf]
set_option maxHeartbeats 4000000 in
theorem pLen {base g : Nat} {w : World} {bs : List Blk} {fp : List Nat} (hP : PSet base g w bs fp) (hl : bs.length ≤ 1099511627776) :
    Calls Try.prog 23 #[.pointer (some ⟨g, 0, none⟩)] w fun e w' => e = .returned (.int .i64 ((numsB bs).length : Nat)) ∧ Below w.heap.size w w' := by
  obtain ⟨V, hb, ho, hfp, hne⟩ := hP.ex
  obtain ⟨A, c, rfl, hlc, hrow⟩ := ho.row
  refine enterR (args := [.pointer (some ⟨g, 0, none⟩)]) tabOk Try.func23 rfl Try.ntmps23 rfl ?_; conv => whnf
  (repeat' (first | (refine wl_Lg tabOk hb rfl rfl rfl rfl rfl rfl rfl (run_l tabOk ?_); conv => whnf) | (refine wl_pnF tabOk rfl rfl rfl rfl rfl rfl (run_l tabOk ?_); conv => whnf) | (refine wl_pnT tabOk rfl rfl rfl rfl rfl rfl (run_l tabOk ?_); conv => whnf) | (refine wl_pqF tabOk rfl rfl rfl rfl rfl rfl (run_l tabOk ?_); conv => whnf) | (refine wl_pqT tabOk rfl rfl rfl rfl rfl rfl (run_l tabOk ?_); conv => whnf) | (refine wl_add rfl rfl rfl rfl rfl rfl (by omega) (by omega) (run_l tabOk ?_); conv => whnf) | (refine wl_sub rfl rfl rfl rfl rfl rfl (by omega) (by omega) (run_l tabOk ?_); conv => whnf) | (refine gs_dt (by first | assumption | omega) ?_; conv => whnf) | (refine gs_df (by first | assumption | omega) ?_; conv => whnf) | (refine gs_t (by assumption) ?_; conv => whnf) | (refine gs_f (by assumption) ?_; conv => whnf) | (refine gs_d (fun hg => ?_) (fun hg => ?_) <;> conv => whnf) | (refine gs_n (fun hg => ?_) (fun hg => ?_) <;> conv => whnf) | (refine gs_nb (fun hg => ?_) (fun hg => ?_) <;> conv => whnf) | (refine gs_b (fun hg => ?_) (fun hg => ?_) <;> conv => whnf) | refine fin1 rfl rfl ?_))
  refine lp_loop tabOk (X := Nat) (fun i => [(3, .int .i64 ((numsB (bs.take i)).length : Nat)), (11, .slice A bs.length c), (12, .int .i64 bs.length), (13, .int .i64 i)])
    (fun i wr => i ≤ bs.length ∧ Below w.heap.size w wr) (fun i => bs.length - i) 0 ⟨rfl, rfl, rfl, rfl, trivial⟩ ⟨by omega, Below.refl _ _⟩ ?_
  intro i G wr ⟨hi, hB⟩
  conv => whnf
  by_cases hlt : i < bs.length
  · obtain ⟨ad, rfl, hc⟩ := rowB_at (hrow.up stays_Blk hB) i hlt
    have hnl := numsB_len (bs.take i)
    have htl : (bs.take i).length ≤ 1099511627776 := by simp; omega
    have hbl := bitsOf_len bs[i]!.w
    have hrg := hP.wf.rng _ (mem_getB hlt)
    generalize hN : (numsB (bs.take i)).length = N at hnl
    (repeat' (first | (refine wl_Xn tabOk 82 2 rfl rfl rfl rfl rfl rfl rfl (by omega) (run_l tabOk ?_); conv => whnf) | (refine wl_La tabOk hc rfl rfl rfl rfl rfl rfl (run_l tabOk ?_); conv => whnf) | (refine wl_add rfl rfl rfl rfl rfl rfl (by omega) (by omega) (run_l tabOk ?_); conv => whnf) | (refine wl_sub rfl rfl rfl rfl rfl rfl (by omega) (by omega) (run_l tabOk ?_); conv => whnf) | (refine gs_dt (by first | assumption | omega) ?_; conv => whnf) | (refine gs_df (by first | assumption | omega) ?_; conv => whnf) | (refine gs_t (by assumption) ?_; conv => whnf) | (refine gs_f (by assumption) ?_; conv => whnf) | (refine gs_d (fun hg => ?_) (fun hg => ?_) <;> conv => whnf) | (refine gs_n (fun hg => ?_) (fun hg => ?_) <;> conv => whnf) | (refine gs_nb (fun hg => ?_) (fun hg => ?_) <;> conv => whnf) | (refine gs_b (fun hg => ?_) (fun hg => ?_) <;> conv => whnf) | refine fin1 rfl rfl ?_))
    refine wl_alloc tabOk rfl rfl rfl rfl rfl rfl ?_
    intro g5 w1 hn1
    refine run_l tabOk ?_
    conv => whnf
    refine wl_Sa tabOk hn1.blk rfl rfl rfl rfl rfl (by simp [Value.oneCell']) rfl rfl ?_
    intro w2 hp2
    have hB2 : Below wr.heap.size wr w2 := hp2.below hn1.below (by have := hn1.at_; omega) (by have := hn1.size; omega)
    have hb5 := hp2.blk
    refine run_l tabOk ?_
    conv => whnf
    (repeat' (first | (refine wl_Lg tabOk hb5 rfl rfl rfl rfl rfl rfl rfl (run_l tabOk ?_); conv => whnf) | (refine wl_add rfl rfl rfl rfl rfl rfl (by omega) (by omega) (run_l tabOk ?_); conv => whnf) | (refine wl_sub rfl rfl rfl rfl rfl rfl (by omega) (by omega) (run_l tabOk ?_); conv => whnf) | (refine gs_dt (by first | assumption | omega) ?_; conv => whnf) | (refine gs_df (by first | assumption | omega) ?_; conv => whnf) | (refine gs_t (by assumption) ?_; conv => whnf) | (refine gs_f (by assumption) ?_; conv => whnf) | (refine gs_d (fun hg => ?_) (fun hg => ?_) <;> conv => whnf) | (refine gs_n (fun hg => ?_) (fun hg => ?_) <;> conv => whnf) | (refine gs_nb (fun hg => ?_) (fun hg => ?_) <;> conv => whnf) | (refine gs_b (fun hg => ?_) (fun hg => ?_) <;> conv => whnf) | refine fin1 rfl rfl ?_))
    refine wl_C fn41 (pOnes bs[i]!.w hrg.2.2.2 w2) rfl rfl rfl rfl rfl rfl rfl ?_
    rintro _ w3 ⟨rfl, hB3⟩
    refine ⟨_, rfl, run_l tabOk ?_⟩
    conv => whnf
    (repeat' (first | (refine wl_add rfl rfl rfl rfl rfl rfl (by omega) (by omega) (run_l tabOk ?_); conv => whnf) | (refine wl_sub rfl rfl rfl rfl rfl rfl (by omega) (by omega) (run_l tabOk ?_); conv => whnf) | (refine gs_dt (by first | assumption | omega) ?_; conv => whnf) | (refine gs_df (by first | assumption | omega) ?_; conv => whnf) | (refine gs_t (by assumption) ?_; conv => whnf) | (refine gs_f (by assumption) ?_; conv => whnf) | (refine gs_d (fun hg => ?_) (fun hg => ?_) <;> conv => whnf) | (refine gs_n (fun hg => ?_) (fun hg => ?_) <;> conv => whnf) | (refine gs_nb (fun hg => ?_) (fun hg => ?_) <;> conv => whnf) | (refine gs_b (fun hg => ?_) (fun hg => ?_) <;> conv => whnf) | refine fin1 rfl rfl ?_))
    refine ⟨i + 1, ⟨?_, rfl, rfl, rfl, trivial⟩, ⟨by omega, bup (bup hB hB2) hB3⟩, by omega⟩
    show Value.int .i64 _ = Value.int .i64 _
    rw [numsB_take hlt, List.length_append, numsOf_len, hN]
    rfl
  · (repeat' (first | (refine wl_add rfl rfl rfl rfl rfl rfl (by omega) (by omega) (run_l tabOk ?_); conv => whnf) | (refine wl_sub rfl rfl rfl rfl rfl rfl (by omega) (by omega) (run_l tabOk ?_); conv => whnf) | (refine gs_dt (by first | assumption | omega) ?_; conv => whnf) | (refine gs_df (by first | assumption | omega) ?_; conv => whnf) | (refine gs_t (by assumption) ?_; conv => whnf) | (refine gs_f (by assumption) ?_; conv => whnf) | (refine gs_d (fun hg => ?_) (fun hg => ?_) <;> conv => whnf) | (refine gs_n (fun hg => ?_) (fun hg => ?_) <;> conv => whnf) | (refine gs_nb (fun hg => ?_) (fun hg => ?_) <;> conv => whnf) | (refine gs_b (fun hg => ?_) (fun hg => ?_) <;> conv => whnf) | refine fin1 rfl rfl ?_))
    have : bs.take i = bs := List.take_of_length_le (by omega)
    rw [this]
    exact ⟨rfl, hB⟩
end Go.Proofs.Ytjggjhgbobmkhaa

/- pile: Of. Lists that rise. -/
namespace Go.Proofs.Ytjggjhgbobmkhaa
open Go.RowKit
set_option linter.unusedVariables false
set_option linter.unusedSimpArgs false
set_option maxRecDepth 100000
/-- A set of its own. -/
structure OwnS (w0 : World) (g : Nat) (w : World) (bs : List Blk) (fp : List Nat) : Prop where
  set : PSet w0.heap.size g w bs fp
  below : Below w0.heap.size w0 w
/-- An empty one is made. -/
theorem pset_new {w w1 : World} {g : Nat} (h : New w w1 g [.slice none 0 0] 76) : PSet w.heap.size g w1 [] [g] :=
  ⟨⟨.slice none 0 0, h.blk, own_nil .., rfl, by simp [Value.ownBlock]⟩, Nat.le_of_eq h.at_.symm, WFB.nil⟩
theorem OwnS.add {w0 w w' : World} {g : Nat} {bs bs' : List Blk} {fp fp' : List Nat} {n : Int} {e : Ending} (h : OwnS w0 g w bs fp) (r : AddR w0.heap.size g w bs fp n e w' bs' fp') : OwnS w0 g w' bs' fp' :=
  ⟨r.set, r.kept.below h.below h.below.size (fun k hk => (h.set.lt k hk).1)⟩
set_option maxHeartbeats 4000000 in
theorem pOf (l : List Int) (A : Option Addr) (c : Nat) (w : World) (h : RI w A l) (hl : l.length ≤ 1048576) :
    Calls Try.prog 39 #[.slice A l.length c] w fun e w' => ∃ g bs fp, e = .returned (.pointer (some ⟨g, 0, none⟩)) ∧ OwnS w g w' bs fp ∧ (∀ m : Nat, memB bs m = decide ((m : Int) ∈ l)) ∧ bs.length ≤ l.length := by
  refine enterR (args := [.slice A l.length c]) tabOk Try.func39 rfl Try.ntmps39 rfl ?_; conv => whnf
  (repeat' (first | (refine wl_add rfl rfl rfl rfl rfl rfl (by omega) (by omega) (run_l tabOk ?_); conv => whnf) | (refine wl_sub rfl rfl rfl rfl rfl rfl (by omega) (by omega) (run_l tabOk ?_); conv => whnf) | (refine gs_dt (by first | assumption | omega) ?_; conv => whnf) | (refine gs_df (by first | assumption | omega) ?_; conv => whnf) | (refine gs_t (by assumption) ?_; conv => whnf) | (refine gs_f (by assumption) ?_; conv => whnf) | (refine gs_d (fun hg => ?_) (fun hg => ?_) <;> conv => whnf) | (refine gs_n (fun hg => ?_) (fun hg => ?_) <;> conv => whnf) | (refine gs_nb (fun hg => ?_) (fun hg => ?_) <;> conv => whnf) | (refine gs_b (fun hg => ?_) (fun hg => ?_) <;> conv => whnf) | refine fin1 rfl rfl ?_))
  refine wl_box rfl rfl rfl rfl rfl rfl ?_
  intro g w1 hn1
  refine run_l tabOk ?_
  conv => whnf
  (repeat' (first | (refine wl_add rfl rfl rfl rfl rfl rfl (by omega) (by omega) (run_l tabOk ?_); conv => whnf) | (refine wl_sub rfl rfl rfl rfl rfl rfl (by omega) (by omega) (run_l tabOk ?_); conv => whnf) | (refine gs_dt (by first | assumption | omega) ?_; conv => whnf) | (refine gs_df (by first | assumption | omega) ?_; conv => whnf) | (refine gs_t (by assumption) ?_; conv => whnf) | (refine gs_f (by assumption) ?_; conv => whnf) | (refine gs_d (fun hg => ?_) (fun hg => ?_) <;> conv => whnf) | (refine gs_n (fun hg => ?_) (fun hg => ?_) <;> conv => whnf) | (refine gs_nb (fun hg => ?_) (fun hg => ?_) <;> conv => whnf) | (refine gs_b (fun hg => ?_) (fun hg => ?_) <;> conv => whnf) | refine fin1 rfl rfl ?_))
  refine lp_loop tabOk (X := Nat) (fun i => [(3, .pointer (some ⟨g, 0, none⟩)), (8, .slice A l.length c), (9, .int .i64 l.length), (10, .int .i64 i)])
    (fun i wr => i ≤ l.length ∧ ∃ bs fp, OwnS w g wr bs fp ∧ (∀ m : Nat, memB bs m = decide ((m : Int) ∈ l.take i)) ∧ bs.length ≤ i) (fun i => l.length - i) 0 ⟨rfl, rfl, rfl, rfl, trivial⟩ ⟨by omega, [], [g], ⟨pset_new hn1, hn1.below⟩, by simp [memB_nil], by simp⟩ ?_
  intro i G wr ⟨hi, bs, fp, hO, hm, hbl⟩
  conv => whnf
  by_cases hlt : i < l.length
  · obtain ⟨o, ad, ho, rfl, f0, ho1, ho2⟩ := intsE (h.up (stays_I _) hO.below) i hlt
    (repeat' (first | (refine wl_L tabOk rfl rfl rfl rfl rfl rfl f0 (run_l tabOk ?_); conv => whnf) | (refine wl_Xn tabOk 3 1 rfl rfl rfl rfl rfl rfl rfl (by omega) (run_l tabOk ?_); conv => whnf) | (refine wl_add rfl rfl rfl rfl rfl rfl (by omega) (by omega) (run_l tabOk ?_); conv => whnf) | (refine wl_sub rfl rfl rfl rfl rfl rfl (by omega) (by omega) (run_l tabOk ?_); conv => whnf) | (refine gs_dt (by first | assumption | omega) ?_; conv => whnf) | (refine gs_df (by first | assumption | omega) ?_; conv => whnf) | (refine gs_t (by assumption) ?_; conv => whnf) | (refine gs_f (by assumption) ?_; conv => whnf) | (refine gs_d (fun hg => ?_) (fun hg => ?_) <;> conv => whnf) | (refine gs_n (fun hg => ?_) (fun hg => ?_) <;> conv => whnf) | (refine gs_nb (fun hg => ?_) (fun hg => ?_) <;> conv => whnf) | (refine gs_b (fun hg => ?_) (fun hg => ?_) <;> conv => whnf) | refine fin1 rfl rfl ?_))
    refine wl_C fn37 (pAdd hO.set o ho2 (by omega) hO.below.size) rfl rfl rfl rfl rfl rfl rfl ?_
    rintro _ w2 ⟨bs', fp', r⟩
    refine ⟨_, r.ret, run_l tabOk ?_⟩
    conv => whnf
    (repeat' (first | (refine wl_add rfl rfl rfl rfl rfl rfl (by omega) (by omega) (run_l tabOk ?_); conv => whnf) | (refine wl_sub rfl rfl rfl rfl rfl rfl (by omega) (by omega) (run_l tabOk ?_); conv => whnf) | (refine gs_dt (by first | assumption | omega) ?_; conv => whnf) | (refine gs_df (by first | assumption | omega) ?_; conv => whnf) | (refine gs_t (by assumption) ?_; conv => whnf) | (refine gs_f (by assumption) ?_; conv => whnf) | (refine gs_d (fun hg => ?_) (fun hg => ?_) <;> conv => whnf) | (refine gs_n (fun hg => ?_) (fun hg => ?_) <;> conv => whnf) | (refine gs_nb (fun hg => ?_) (fun hg => ?_) <;> conv => whnf) | (refine gs_b (fun hg => ?_) (fun hg => ?_) <;> conv => whnf) | refine fin1 rfl rfl ?_))
    refine ⟨i + 1, ⟨rfl, rfl, rfl, rfl, trivial⟩, ⟨by omega, bs', fp', hO.add r, fun m => ?_, by have := r.len; omega⟩, by omega⟩
    rw [r.mem, hm, take_next hlt, ho.out]
    simp [Bool.decide_or, eq_comm]
  · (repeat' (first | (refine wl_add rfl rfl rfl rfl rfl rfl (by omega) (by omega) (run_l tabOk ?_); conv => whnf) | (refine wl_sub rfl rfl rfl rfl rfl rfl (by omega) (by omega) (run_l tabOk ?_); conv => whnf) | (refine gs_dt (by first | assumption | omega) ?_; conv => whnf) | (refine gs_df (by first | assumption | omega) ?_; conv => whnf) | (refine gs_t (by assumption) ?_; conv => whnf) | (refine gs_f (by assumption) ?_; conv => whnf) | (refine gs_d (fun hg => ?_) (fun hg => ?_) <;> conv => whnf) | (refine gs_n (fun hg => ?_) (fun hg => ?_) <;> conv => whnf) | (refine gs_nb (fun hg => ?_) (fun hg => ?_) <;> conv => whnf) | (refine gs_b (fun hg => ?_) (fun hg => ?_) <;> conv => whnf) | refine fin1 rfl rfl ?_))
    refine ⟨g, bs, fp, rfl, hO, fun m => ?_, by omega⟩
    rw [hm, List.take_of_length_le (by omega)]
end Go.Proofs.Ytjggjhgbobmkhaa
