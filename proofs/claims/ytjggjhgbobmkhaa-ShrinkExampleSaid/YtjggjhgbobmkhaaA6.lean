/- Several texts of one claim in one file: F23 O23 R23 MX23 EF CL23 PT23 RMB RM23. -/
import Derived.Test.YtjggjhgbobmkhaaA5
import Derived.Laws.FloatArith
import Derived.Test.YtjggjhgbobmkhaaA4
/- least.add, the reference's Flow: all of one row comes into another one. -/
namespace Go.Proofs.Ytjggjhgbobmkhaa
open Go.RowKit
set_option linter.unusedVariables false
set_option linter.unusedSimpArgs false
set_option maxRecDepth 100000
def flowTo (M : Mat) (t f k : Nat) : Prop := ∀ o, o < k → mg M f o = true → mg M t o = true
section
variable {n nc : Nat} {tt fr : Int} {M M' : Mat} {b : Bool} {k : Nat}
theorem flow_set (hM : Shape n nc M) (hT : Tr n nc (flowP tt fr) (flowTo M tt.toNat fr.toNat k) M M' b) (h0 : 0 ≤ tt) (h1 : 0 ≤ fr) (ht : tt < n) (hk : k < nc) (hy : mg M' fr.toNat k = true) (hno : mg M' tt.toNat k = false) :
    Tr n nc (flowP tt fr) (flowTo M tt.toNat fr.toNat (k + 1)) M (setT M' tt.toNat k) true := by
  have h2 : Tr n nc (fun N => mg N fr.toNat k = true → mg N tt.toNat k = true) (mg M' fr.toNat k = true → mg M' tt.toNat k = true) M' (setT M' tt.toNat k) true :=
    Tr.one hT.sh (by omega) hk hno fun N hN hp => hp (hN _ _ hy)
  have := hT.step hM h2 (fun N _ hp => hp h0 h1 k) (Q' := flowTo M tt.toNat fr.toNat (k + 1)) (fun q p o ho hm => by
    rcases Nat.lt_or_ge o k with h | h
    · exact q o h hm
    · have : o = k := by omega
      subst this
      exact p hm)
  rwa [Bool.or_true] at this
theorem flow_same (hT : Tr n nc (flowP tt fr) (flowTo M tt.toNat fr.toNat k) M M' b) (hn : mg M' fr.toNat k = true → mg M' tt.toNat k = true) : Tr n nc (flowP tt fr) (flowTo M tt.toNat fr.toNat (k + 1)) M M' b :=
  hT.weak fun _ e q o ho hm => by
    rcases Nat.lt_or_ge o k with h | h
    · exact q o h hm
    · have : o = k := by omega
      subst this
      subst e
      exact hn hm
theorem flow_end (hM : Shape n nc M) (hT : Tr n nc (flowP tt fr) (flowTo M tt.toNat fr.toNat nc) M M' b) : Tr n nc (flowP tt fr) (flowP tt fr M) M M' b :=
  hT.weak fun _ _ q _ _ o hm => by
    by_cases ho : o < nc
    · exact q o ho hm
    · rw [mg_out hM (by omega)] at hm
      cases hm
end
theorem refFlow (M : Mat) (rb : List Nat) (n nc : Nat) (base : Nat) (A : Option Addr) (cap : Nat) (tt fr : Int) (w : World) (hM : BMat base w A M rb n nc) (ht : tt < n) (hf : fr < n) (hnc : nc ≤ 9223372036854775807) :
    Calls Try.prog 60 #[.slice A n cap, .int .i64 tt, .int .i64 fr] w fun e w' => ∃ M' b, e = .returned (.bool b) ∧ BMat base w' A M' rb n nc ∧ Keeps rb w w' ∧ Tr n nc (flowP tt fr) (flowP tt fr M) M M' b := by
  refine enterR (args := [.slice A n cap, .int .i64 tt, .int .i64 fr]) tabOk Try.func60 rfl Try.ntmps60 rfl ?_; conv => whnf
  (repeat' (first | ((first | refine wl_add rfl rfl rfl rfl rfl rfl (by omega) (by omega) (run_l tabOk ?_) | refine wl_sub rfl rfl rfl rfl rfl rfl (by omega) (by omega) (run_l tabOk ?_) | refine gs_dt (by first | assumption | omega) ?_ | refine gs_df (by first | assumption | omega) ?_ | refine gs_t (by assumption) ?_ | refine gs_f (by assumption) ?_ | refine gs_d (fun hg => ?_) (fun hg => ?_) | refine gs_n (fun hg => ?_) (fun hg => ?_) | refine gs_nb (fun hg => ?_) (fun hg => ?_) | refine gs_b (fun hg => ?_) (fun hg => ?_)) <;> conv => whnf) | refine fin1 rfl rfl ?_))
  all_goals try exact ⟨M, false, rfl, hM, Keeps.refl _ _, Tr.start hM.sh (fun h1 h2 => by omega)⟩
  have h0 : 0 ≤ tt := by omega
  have h1 : 0 ≤ fr := by omega
  obtain ⟨ad, rfl, hca, hc⟩ := hM.cell fr.toNat (by omega)
  refine lp_loop tabOk (X := Nat × Mat × Bool) (fun x => [(0, .slice (some ad) n cap), (1, .int .i64 tt), (2, .int .i64 fr), (7, .bool x.2.2), (8, .int .i64 x.1)])
    (fun x wr => x.1 ≤ nc ∧ BMat base wr (some ad) x.2.1 rb n nc ∧ Keeps rb w wr ∧ Tr n nc (flowP tt fr) (flowTo M tt.toNat fr.toNat x.1) M x.2.1 x.2.2) (fun x => nc - x.1) (0, M, false) ⟨rfl, rfl, rfl, rfl, rfl, trivial⟩ ⟨by simp, hM, Keeps.refl _ _, Tr.start hM.sh (fun o ho => by simp at ho)⟩ ?_
  rintro ⟨k, M', b⟩ G wr ⟨hk, hMr, hK, hT⟩
  simp only at hk hMr hK hT
  conv => whnf
  obtain ⟨ad3, e3, hcf⟩ := hMr.cells (i := fr.toNat) (by omega)
  cases e3
  by_cases hlt : k < nc
  · have hbf := hMr.bit (i := fr.toNat) (by omega) hlt
    have hbt := hMr.bit (i := tt.toNat) (by omega) hlt
    obtain ⟨ad2, e2, hct⟩ := hMr.cells (i := tt.toNat) (by omega)
    cases e2
    (repeat' (first | (refine wl_L tabOk rfl rfl rfl rfl rfl rfl hbf (run_l tabOk ?_); conv => whnf) | (refine wl_L tabOk rfl rfl rfl rfl rfl rfl hcf (run_l tabOk ?_); conv => whnf) | (refine wl_L tabOk rfl rfl rfl rfl rfl rfl hct (run_l tabOk ?_); conv => whnf) | (refine wl_L tabOk rfl rfl rfl rfl rfl rfl hbt (run_l tabOk ?_); conv => whnf) | (refine wl_Xn tabOk 4 1 rfl rfl rfl rfl rfl rfl rfl (by omega) (run_l tabOk ?_); conv => whnf) | (refine wl_X tabOk 34 1 rfl rfl rfl rfl rfl rfl rfl (by omega) (by omega) (run_l tabOk ?_); conv => whnf) | ((first | refine wl_add rfl rfl rfl rfl rfl rfl (by omega) (by omega) (run_l tabOk ?_) | refine wl_sub rfl rfl rfl rfl rfl rfl (by omega) (by omega) (run_l tabOk ?_) | refine gs_dt (by first | assumption | omega) ?_ | refine gs_df (by first | assumption | omega) ?_ | refine gs_t (by assumption) ?_ | refine gs_f (by assumption) ?_ | refine gs_d (fun hg => ?_) (fun hg => ?_) | refine gs_n (fun hg => ?_) (fun hg => ?_) | refine gs_nb (fun hg => ?_) (fun hg => ?_) | refine gs_b (fun hg => ?_) (fun hg => ?_)) <;> conv => whnf) | refine fin1 rfl rfl ?_))
    · rename_i hy
      have hno : mg M' tt.toNat k = false := by assumption
      refine wl_Se (j := k * 1) (v := .bool true) tabOk (hMr.blk tt.toNat (by omega)) rfl rfl rfl rfl rfl rfl (by unfold vb; rw [List.length_map, hMr.sh.cols _ (by omega)]; omega) rfl rfl ?_
      intro w1 hp
      rw [Nat.mul_one] at hp
      refine run_l tabOk ?_
      conv => whnf
      (repeat' (first | ((first | refine wl_add rfl rfl rfl rfl rfl rfl (by omega) (by omega) (run_l tabOk ?_) | refine wl_sub rfl rfl rfl rfl rfl rfl (by omega) (by omega) (run_l tabOk ?_) | refine gs_dt (by first | assumption | omega) ?_ | refine gs_df (by first | assumption | omega) ?_ | refine gs_t (by assumption) ?_ | refine gs_f (by assumption) ?_ | refine gs_d (fun hg => ?_) (fun hg => ?_) | refine gs_n (fun hg => ?_) (fun hg => ?_) | refine gs_nb (fun hg => ?_) (fun hg => ?_) | refine gs_b (fun hg => ?_) (fun hg => ?_)) <;> conv => whnf) | refine fin1 rfl rfl ?_))
      exact ⟨(k + 1, setT M' tt.toNat k, true), ⟨rfl, rfl, rfl, rfl, rfl, trivial⟩, ⟨by simp only; omega, hMr.put (by omega) hp, hK.put hp (hMr.mem (by omega)), flow_set hM.sh hT h0 h1 ht hlt (by assumption) hno⟩, by simp only; omega⟩
    all_goals exact ⟨(k + 1, M', b), ⟨rfl, rfl, rfl, rfl, rfl, trivial⟩, ⟨by simp only; omega, hMr, hK, flow_same hT (by simp_all)⟩, by simp only; omega⟩
  · have hkn : k = nc := by omega
    subst hkn
    (repeat' (first | (refine wl_L tabOk rfl rfl rfl rfl rfl rfl hcf (run_l tabOk ?_); conv => whnf) | (refine wl_X tabOk 34 1 rfl rfl rfl rfl rfl rfl rfl (by omega) (by omega) (run_l tabOk ?_); conv => whnf) | ((first | refine wl_add rfl rfl rfl rfl rfl rfl (by omega) (by omega) (run_l tabOk ?_) | refine wl_sub rfl rfl rfl rfl rfl rfl (by omega) (by omega) (run_l tabOk ?_) | refine gs_dt (by first | assumption | omega) ?_ | refine gs_df (by first | assumption | omega) ?_ | refine gs_t (by assumption) ?_ | refine gs_f (by assumption) ?_ | refine gs_d (fun hg => ?_) (fun hg => ?_) | refine gs_n (fun hg => ?_) (fun hg => ?_) | refine gs_nb (fun hg => ?_) (fun hg => ?_) | refine gs_b (fun hg => ?_) (fun hg => ?_)) <;> conv => whnf) | refine fin1 rfl rfl ?_))
    exact ⟨M', b, rfl, hMr, hK, flow_end hM.sh hT⟩
end Go.Proofs.Ytjggjhgbobmkhaa

/- least.object, least.rule. -/
namespace Go.Proofs.Ytjggjhgbobmkhaa
open Go.RowKit
set_option linter.unusedVariables false
set_option linter.unusedSimpArgs false
set_option maxRecDepth 100000
theorem not_mem_new {base : Nat} {w : World} {A : Option Addr} {M : Mat} {rb : List Nat} {n nc : Nat} (h : BMat base w A M rb n nc) {g : Nat} (hg : w.heap.size ≤ g) : g ∉ rb := fun hm => by have := (h.ge g hm).2; omega
theorem Keeps.low {rb : List Nat} {w0 w w1 : World} {base : Nat} {A : Option Addr} {M : Mat} {n nc : Nat} (h : Keeps rb w w1) (hM : BMat base w A M rb n nc) (hb : Below w0.heap.size w0 w) (h0 : w0.heap.size ≤ base) : Below w0.heap.size w0 w1 :=
  h.below hb hb.size fun k hk => Nat.le_trans h0 (hM.ge k hk).1
/-- The j first arguments are through. -/
def argsTo (c : Con) (x : Cell) (j : Nat) (N : Mat) : Prop := flowP c.a x.v N ∧ ∀ k, k < j → k < x.args.length → k < c.args.length → flowP x.args[k]! c.args[k]! N
end Go.Proofs.Ytjggjhgbobmkhaa

/- least.rule: a constraint is kept. -/
namespace Go.Proofs.Ytjggjhgbobmkhaa
open Go.RowKit
set_option linter.unusedVariables false
set_option linter.unusedSimpArgs false
set_option maxRecDepth 100000
theorem stable_Kw (rb : List Nat) (w : World) : Stable (Keeps rb w) := fun _ _ h h' => h.up h'
structure GoodC (n nc : Nat) (c : Con) : Prop where
  k : 1 ≤ c.k ∧ c.k ≤ 5
  a : c.a < n
  a0 : c.k < 5 → 0 ≤ c.a
  b0 : 0 ≤ c.b
  b1 : c.k = 1 → c.b < nc
  b : 2 ≤ c.k → c.b < n
  args : ∀ j, j < c.args.length → c.args[j]! < n
theorem goodC {n nc : Nat} {c : Con} (h : conOk n nc c = true) : GoodC n nc c := by
  simp only [conOk, Bool.and_eq_true, decide_eq_true_eq, inR, List.all_eq_true] at h
  obtain ⟨⟨⟨⟨⟨⟨h1, h2⟩, h3, h4⟩, h5, h6⟩, _⟩, _⟩, h7⟩ := h
  refine ⟨⟨h1, h2⟩, h4, fun hk => by rw [if_neg (by omega)] at h3; exact h3, h5, fun hk => by rw [if_pos hk] at h6; exact h6, fun hk => by rw [if_neg (by omega)] at h6; exact h6, fun j hj => (h7 _ (mem_get hj)).2⟩
structure GoodX (n : Nat) (x : Cell) : Prop where
  v0 : 0 ≤ x.v
  v : x.v < n
  args0 : ∀ j, j < x.args.length → 0 ≤ x.args[j]!
  args : ∀ j, j < x.args.length → x.args[j]! < n
theorem goodX {n : Nat} {x : Cell} (h : cellOk n x = true) : GoodX n x := by
  simp only [cellOk, Bool.and_eq_true, decide_eq_true_eq, inR, List.all_eq_true] at h
  exact ⟨h.1.1.1.1, h.1.1.1.2, fun j hj => (h.2 _ (mem_get hj)).1, fun j hj => (h.2 _ (mem_get hj)).2⟩
/-- The k first objects are through. -/
def objsTo (xs : List Cell) (c : Con) (k : Nat) (M : Mat) : Prop := ∀ o, o < k → mg M (srcOf c) o = true → objP c xs[o]! M
end Go.Proofs.Ytjggjhgbobmkhaa

/- least.matrix: a map as a matrix. -/
namespace Go.Proofs.Ytjggjhgbobmkhaa
open Go.RowKit
set_option linter.unusedVariables false
set_option linter.unusedSimpArgs false
set_option maxRecDepth 100000
def sl (nc b : Nat) : Value := .slice (some ⟨b, 0, none⟩) nc nc
/-- In the loop: the rows rb are made. -/
structure MS (base gm : Nat) (w : World) (rb : List Nat) (n nc : Nat) (M : Mat) : Prop where
  out : w.heap[gm]? = some (.cells ((rb.map (sl nc)) ++ List.replicate (n - rb.length) (Value.slice none 0 0)).toArray 34 (0, 0))
  le : rb.length ≤ n
  sh : Shape rb.length nc M
  blk : ∀ i, i < rb.length → w.heap[rb[i]!]? = some (.cells (vb M[i]!).toArray 4 (0, 0))
  ge : ∀ k ∈ rb, base ≤ k ∧ k < w.heap.size ∧ k ≠ gm
  inj : ∀ i j, i < rb.length → j < rb.length → i ≠ j → rb[i]! ≠ rb[j]!
section
variable {base gm : Nat} {w w1 w2 : World} {rb : List Nat} {n nc : Nat} {M : Mat}
theorem MS.up (h : MS base gm w rb n nc M) (hb : Below w.heap.size w w1) : MS base gm w1 rb n nc M :=
  ⟨blk_up hb h.out, h.le, h.sh, fun i hi => blk_up hb (h.blk i hi), fun k hk => ⟨(h.ge k hk).1, Nat.lt_of_lt_of_le (h.ge k hk).2.1 hb.size, (h.ge k hk).2.2⟩, h.inj⟩
theorem MS.cell (h : MS base gm w rb n nc M) {i : Nat} (hi : i < rb.length) : w.cell? ((⟨gm, 0, none⟩ : Addr).add (i * 1)) = some (sl nc rb[i]!) := by
  rw [Nat.mul_one, add_zero]
  refine cell_blk h.out ?_
  rw [getElem!_pos rb i hi]
  simp [List.getElem?_append_left, hi]
theorem MS.bmat (h : MS base gm w rb n nc M) (hg : gm ∉ rb) : BMat base w (some ⟨gm, 0, none⟩) M rb rb.length nc :=
  ⟨h.sh, rfl, fun i hi => ⟨_, rfl, hg, h.cell hi⟩, h.blk, fun k hk => ⟨(h.ge k hk).1, (h.ge k hk).2.1⟩, h.inj⟩
theorem MS.notin (h : MS base gm w rb n nc M) : gm ∉ rb := fun hm => (h.ge gm hm).2.2 rfl
theorem get_snoc {α : Type} [Inhabited α] (xs : List α) (x : α) {i : Nat} (hi : i < xs.length + 1) : (xs ++ [x])[i]! = if i < xs.length then xs[i]! else x := by
  rw [getElem!_pos _ i (by simpa using hi), List.getElem_append]
  split
  · rename_i h
    rw [getElem!_pos xs i h]
  · simp
theorem MS.snoc (h : MS base gm w rb n nc M) (hlt : rb.length < n) {gr : Nat} (hn : New w w1 gr (List.replicate nc [Value.bool false]).flatten 4) (hb : base ≤ w.heap.size) (hgm : gm < w.heap.size)
    (hp : Put w1 w2 gm (((rb.map (sl nc)) ++ List.replicate (n - rb.length) (Value.slice none 0 0)).set rb.length (sl nc gr)) 34) : MS base gm w2 (rb ++ [gr]) n nc (M ++ [List.replicate nc false]) := by
  have hgr := hn.at_
  have hl : (rb ++ [gr]).length = rb.length + 1 := by simp
  have hMl : M.length = rb.length := h.sh.rows
  have e1 : ((rb.map (sl nc)) ++ List.replicate (n - rb.length) (Value.slice none 0 0)).set rb.length (sl nc gr) = ((rb ++ [gr]).map (sl nc)) ++ List.replicate (n - (rb ++ [gr]).length) (Value.slice none 0 0) := by
    rw [List.set_append_right _ _ (by simp), hl]
    rw [show n - rb.length = (n - (rb.length + 1)) + 1 by omega, List.replicate_succ]
    simp
  rw [e1] at hp
  have old : ∀ i, i < rb.length → rb[i]! < w.heap.size ∧ rb[i]! ≠ gm := fun i hi => ⟨(h.ge _ (mem_get hi)).2.1, (h.ge _ (mem_get hi)).2.2⟩
  refine ⟨hp.blk, by omega, ⟨by simp [hMl], fun i hi => ?_⟩, fun i hi => ?_, fun k hk => ?_, fun i j hi hj hij => ?_⟩
  · rw [get_snoc _ _ (by omega)]
    split
    · rename_i hi'; exact h.sh.cols i (by omega)
    · simp
  · rw [hl] at hi
    rw [get_snoc _ _ hi, get_snoc _ _ (by omega), hMl]
    by_cases hi' : i < rb.length
    · rw [if_pos hi', if_pos hi']
      exact hp.old (hn.old (h.blk i hi')) (old i hi').2
    · rw [if_neg hi', if_neg hi']
      have e2 : vb (List.replicate nc false) = (List.replicate nc [Value.bool false]).flatten := by simp [vb]
      rw [e2]
      exact hp.old hn.blk (by omega)
  · rw [hp.size, hn.size]
    rcases List.mem_append.1 hk with hk | hk
    · have := h.ge k hk; exact ⟨this.1, by omega, this.2.2⟩
    · simp only [List.mem_singleton] at hk
      subst hk
      exact ⟨by omega, by omega, by omega⟩
  · rw [hl] at hi hj
    rw [get_snoc _ _ hi, get_snoc _ _ hj]
    by_cases h1 : i < rb.length <;> by_cases h2 : j < rb.length
    · rw [if_pos h1, if_pos h2]; exact h.inj i j h1 h2 hij
    · rw [if_pos h1, if_neg h2]; have := (old i h1).1; omega
    · rw [if_neg h1, if_pos h2]; have := (old j h2).1; omega
    · omega
theorem MS.put (h : MS base gm w rb n nc M) {i o : Nat} (hi : i < rb.length) (hp : Put w w1 rb[i]! ((vb M[i]!).set o (.bool true)) 4) : MS base gm w1 rb n nc (setT M i o) := by
  have hb := (h.bmat h.notin).put hi hp
  exact ⟨hp.old h.out (fun e => (h.ge _ (mem_get hi)).2.2 e.symm), h.le, hb.sh, hb.blk, fun k hk => ⟨(h.ge k hk).1, by rw [hp.size]; exact (h.ge k hk).2.1, (h.ge k hk).2.2⟩, h.inj⟩
end
end Go.Proofs.Ytjggjhgbobmkhaa

/- Floats: what they give, where the language names it; else that it is no number. -/
namespace Go.Proofs.Ytjggjhgbobmkhaa
open Go.RowKit
set_option linter.unusedVariables false
set_option linter.unusedSimpArgs false
section
variable {P : Program} {T : Nat → Option TI} {n : Nat} {Q : Post} {F : Fm} {w : World} {ops : Array Oper} {rest : List Oper} {o : Oper} {K : Fm → Prop} {C : World → Prop}
/-! ### functions that have no body -/
end
end Go.Proofs.Ytjggjhgbobmkhaa

/- least.Closed. -/
namespace Go.Proofs.Ytjggjhgbobmkhaa
open Go.RowKit
set_option linter.unusedVariables false
set_option linter.unusedSimpArgs false
set_option maxRecDepth 100000
theorem right_parts {n : Nat} {xs : List Cell} {ys : List Con} (h : rightB ⟨n, xs, ys⟩ = true) : n ≤ 16384 ∧ xs.length ≤ 16384 ∧ ys.length ≤ 131072 ∧ (∀ o, o < xs.length → GoodX n xs[o]!) ∧ ∀ i, i < ys.length → GoodC n xs.length ys[i]! := by
  simp only [rightB, bigOk, Bool.and_eq_true, decide_eq_true_eq, List.all_eq_true] at h
  exact ⟨by omega, h.1.1.1.2, h.1.1.2, fun o ho => goodX (h.1.2 _ (mem_get ho)), fun i hi => goodC (h.2 _ (mem_get hi))⟩
end Go.Proofs.Ytjggjhgbobmkhaa

/- least.Points: the least map. -/
namespace Go.Proofs.Ytjggjhgbobmkhaa
open Go.RowKit
set_option linter.unusedVariables false
set_option linter.unusedSimpArgs false
set_option maxRecDepth 100000
def rowTo (r : List Bool) (k : Nat) : List Int := ((List.range k).filter fun o => r[o]!).map fun (o : Nat) => (o : Int)
def rowPts (r : List Bool) : List Int := rowTo r r.length
def ptsOf (M : Mat) : List (List Int) := M.map rowPts
theorem rowTo_next (r : List Bool) (k : Nat) : rowTo r (k + 1) = if r[k]! then rowTo r k ++ [(k : Int)] else rowTo r k := by
  unfold rowTo
  rw [List.range_succ, List.filter_append, List.map_append]
  cases h : r[k]! with
  | true => rw [List.filter_cons_of_pos (by exact h)]; rfl
  | false => rw [List.filter_cons_of_neg (by rw [h]; simp)]; simp
theorem rowTo_len (r : List Bool) (k : Nat) : (rowTo r k).length ≤ k := by
  unfold rowTo
  rw [List.length_map]
  exact Nat.le_trans (List.length_filter_le _ _) (by simp)
theorem GMat.lower {base b' g : Nat} {w : World} {vs : List Value} {M : List (List Int)} {bl : List Nat} (h : GMat base g w vs M bl) (hb : b' ≤ base) : GMat b' g w vs M bl :=
  ⟨h.blk, h.len, Nat.le_trans hb h.hg, h.gb, fun b hm => ⟨Nat.le_trans hb (h.lt b hm).1, (h.lt b hm).2⟩, fun i hi => ⟨(h.row i hi).1.lower hb, (h.row i hi).2⟩, h.ne⟩
end Go.Proofs.Ytjggjhgbobmkhaa

/- Matrices of truths whose outer row grows by append. -/
namespace Go.Proofs.Ytjggjhgbobmkhaa
open Go.RowKit
set_option linter.unusedVariables false
set_option linter.unusedSimpArgs false
set_option maxRecDepth 100000
/-- A row of truths, told by its block. -/
def dSl (nc : Nat) : Dec Nat := fun _ cs b => cs = [sl nc b]
structure RM (base : Nat) (w : World) (V : Value) (rb : List Nat) (nc : Nat) (M : Mat) : Prop where
  row : GRow 1 (dSl nc) 34 base w V rb rb
  sh : Shape rb.length nc M
  blk : ∀ i, i < rb.length → w.heap[rb[i]!]? = some (.cells (vb M[i]!).toArray 4 (0, 0))
  inj : ∀ i j, i < rb.length → j < rb.length → i ≠ j → rb[i]! ≠ rb[j]!
section
variable {base : Nat} {w w1 : World} {V V' : Value} {rb : List Nat} {nc : Nat} {M : Mat}
theorem RM.nil (base : Nat) (w : World) (nc : Nat) : RM base w (.slice none 0 0) [] nc [] := ⟨GRow.nil .., ⟨rfl, by simp⟩, by simp, by simp⟩
theorem RM.up (h : RM base w V rb nc M) (hb : Below w.heap.size w w1) : RM base w1 V rb nc M :=
  ⟨h.row.below hb, h.sh, fun i hi => blk_up hb (h.blk i hi), h.inj⟩
theorem RM.lt (h : RM base w V rb nc M) : ∀ k ∈ rb, base ≤ k ∧ k < w.heap.size := h.row.lt
theorem RM.bmat {A : Option Addr} {n c : Nat} (h : RM base w (.slice A n c) rb nc M) : BMat base w A M rb rb.length nc := by
  refine ⟨h.sh, rfl, fun i hi => ?_, h.blk, h.lt, h.inj⟩
  obtain ⟨_, _, hr⟩ := h.row.rowAt
  obtain ⟨ad, cs, e, _, hc, hd⟩ := row_at hr i hi
  subst e
  have hd : cs = [sl nc rb[i]!] := hd
  subst hd
  refine ⟨ad, rfl, fun hm => ?_, hc.1⟩
  exact h.row.ne _ hm rfl
theorem RM.snoc {flat : List Value} {gr : Nat} {r : List Bool} (h : RM base w V rb nc M) (hflat : ∀ w', (∀ b ∈ rb, w'.heap[b]? = w.heap[b]?) → Elems 1 (dSl nc) w' flat rb)
    (hown : w1.ownsRow base 34 1 V' (rb.length + 1) (flat ++ [sl nc gr])) (hg : w.grownBy w1 V.ownBlock) (hob : V'.ownBlock = V.ownBlock ∨ V'.ownBlock = some w.heap.size)
    (hr : w.heap[gr]? = some (.cells (vb r).toArray 4 (0, 0))) (hl : r.length = nc) (hb : base ≤ gr) (hne : some gr ≠ V.ownBlock) (hni : gr ∉ rb) : RM base w1 V' (rb ++ [gr]) nc (M ++ [r]) := by
  have hlt := blk_lt hr
  have hM := h.sh.rows
  refine ⟨h.row.push hflat hown hg hob rfl (bs' := [gr]) (x := gr) (fun _ _ => rfl) (by simp; exact ⟨hb, hlt⟩) (by simpa using hne), ⟨by simp [hM], fun i hi => ?_⟩, fun i hi => ?_, fun i j hi hj hij => ?_⟩
  · have hi : i < rb.length + 1 := by simpa using hi
    rw [get_snoc _ _ (by omega)]
    split
    · exact h.sh.cols i (by omega)
    · exact hl
  · have hi : i < rb.length + 1 := by simpa using hi
    rw [get_snoc _ _ hi, get_snoc _ _ (by omega), hM]
    by_cases hi' : i < rb.length
    · rw [if_pos hi', if_pos hi']
      exact (hg.block _ (h.lt _ (mem_get hi')).2 (h.row.ne _ (mem_get hi'))).trans (h.blk i hi')
    · rw [if_neg hi', if_neg hi']
      exact (hg.block _ hlt hne).trans hr
  · have hi : i < rb.length + 1 := by simpa using hi
    have hj : j < rb.length + 1 := by simpa using hj
    rw [get_snoc _ _ hi, get_snoc _ _ hj]
    by_cases h1 : i < rb.length <;> by_cases h2 : j < rb.length
    · rw [if_pos h1, if_pos h2]; exact h.inj i j h1 h2 hij
    · rw [if_pos h1, if_neg h2]; exact fun e => hni (e ▸ mem_get h1)
    · rw [if_neg h1, if_pos h2]; exact fun e => hni (e ▸ mem_get h2)
    · omega
end
end Go.Proofs.Ytjggjhgbobmkhaa

/- Matrices of truths whose outer row grows by append. -/
namespace Go.Proofs.Ytjggjhgbobmkhaa
open Go.RowKit
set_option linter.unusedVariables false
set_option linter.unusedSimpArgs false
set_option maxRecDepth 100000
/-- A row of rows of ints, that grows: one more row, of the call's own too. -/
theorem rows_push {base : Nat} {w w1 : World} {V V' : Value} {rows : List (List Int)} {bs : List Nat} {flat : List Value} {A : Option Addr} {c : Nat} {ys : List Int} {b' : Nat}
    (h : GRow 1 dInts 31 base w V rows bs) (hflat : ∀ w', (∀ b ∈ bs, w'.heap[b]? = w.heap[b]?) → Elems 1 dInts w' flat rows)
    (hown : w1.ownsRow base 31 1 V' (rows.length + 1) (flat ++ [.slice A ys.length c])) (hg : w.grownBy w1 V.ownBlock) (hob : V'.ownBlock = V.ownBlock ∨ V'.ownBlock = some w.heap.size)
    (hy : GInts b' w (.slice A ys.length c) ys) (hb : base ≤ b') (hne : ∀ k, (Value.slice A ys.length c).ownBlock = some k → some k ≠ V.ownBlock) : GRow 1 dInts 31 base w1 V' (rows ++ [ys]) (bs ++ (Value.slice A ys.length c).ownBlock.toList) := by
  have hrow := hy.rowAt
  refine h.push hflat hown hg hob rfl (x := ys) (fun w' hw' => ⟨A, c, rfl, hrow.2.1, hy.reads w' (by simpa using hw')⟩) (fun b hb' => ?_) (fun b hb' => ?_)
  · have e := mem_own hb'
    have := hy.olt b e
    omega
  · exact hne b (mem_own hb')
end Go.Proofs.Ytjggjhgbobmkhaa
