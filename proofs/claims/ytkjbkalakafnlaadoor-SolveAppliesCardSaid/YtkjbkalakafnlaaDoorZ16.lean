/- Several texts of one claim in one file: SK20 PT23 RM23 SM20. -/
import Derived.Test.YtkjbkalakafnlaaDoorZ13
import Derived.Test.YtkjbkalakafnlaaDoorZ14
import Derived.Test.YtkjbkalakafnlaaDoorZ15
import Derived.Test.YtkjbkalakafnlaaDoorZ10
/- solve: look. -/
namespace Go.Proofs.YtkjbkalakafnlaaDoor
open Go.RowKit
set_option linter.unusedVariables false
set_option linter.unusedSimpArgs false
set_option maxRecDepth 100000
theorem QRow.get {base : Nat} {A : Option Addr} {l c : Nat} {xs fp : List Nat} {w : World} (h : QRow base (.slice A l c) xs fp w) {i : Nat} (hi : i < xs.length) : ∃ ad, A = some ad ∧ w.cell? (ad.add (i * 1)) = some (.int .i64 (xs[i]! : Int)) := by
  rcases h.ex with ⟨h1, _⟩ | ⟨g, pre, post, h1, h2, h3, h4, h5⟩
  · subst h1; simp at hi
  · injection h2 with h2 _ _
    subst h2
    refine ⟨_, rfl, ?_⟩
    rw [Nat.mul_one, Addr.add_lit]
    refine cell_blk h4 ?_
    simp only [List.getElem?_toArray]
    rw [List.append_assoc, List.getElem?_append_right (by omega), Nat.add_sub_cancel_left, List.getElem?_append_left (by rw [vi_len]; exact hi)]
    simp [vi, getElem!_pos xs i hi, hi]
/-- Which constraints look at what v points to. -/
structure FrOk (c : Cx) (fr : Nat → List Nat) : Prop where
  all : ∀ i, i < c.ys.length → ¬ c.ys[i]!.k = 1 → ¬ c.ys[i]!.k = 2 → i ∈ fr (srcOf c.ys[i]!)
  only : ∀ v, v < c.n → ∀ i ∈ fr v, i < c.ys.length ∧ ¬ c.ys[i]!.k = 1 ∧ ¬ c.ys[i]!.k = 2 ∧ srcOf c.ys[i]! = v
  len : ∀ v, v < c.n → (fr v).length ≤ c.ys.length
def Cx.sys (c : Cx) : Sys := ⟨c.n, c.xs, c.ys⟩
/-- The set of what was looked at becomes a new one. -/
theorem SV.doned {c : Cx} {O : Nat → Nat} {w1 w2 w3 : World} {m : Mem} {v g2 gr : Nat} {cur : List Value} {fp : List Nat} (h : SV c O w1 m) (hv : v < c.n) (hS : OwnS w1 g2 w2 (m.bi v) fp)
    (hO : O gr = 2) (hg : gr < w1.heap.size) (hp : Put w2 w3 gr (cur.set v (ptrV g2)) 88) (hrow : ∀ w', w'.heap[gr]? = some (.cells (cur.set v (ptrV g2)).toArray 88 (0, 0)) → rowP c.base c.n m.Vd (setN m.gd v g2) [gr] w') :
    ∃ O3, SV c O3 w3 { m with gd := setN m.gd v g2, bd := setN m.bd v (m.bi v) } ∧ Stp O O3 w1 w3 := by
  have hlt := hS.set.lt
  have a1 := (AS.start h.all).put (k := 100 + 4 * v + 1) (rb := []) (P := comp7 c { m with gd := setN m.gd v g2, bd := setN m.bd v (m.bi v) } v 1) (.inr (by omega)) (Kept.of hS.below) (by simp) (fp := fp) (fun b hb => ⟨fun hl => by have := hlt b hb; omega, (hlt b hb).2⟩) (fun w' hw' => by
    refine ⟨fun e => absurd e (by omega), fun _ _ => ?_, fun e => absurd e (by omega), fun e => absurd e (by omega)⟩
    show PSet c.base (setN m.gd v g2 v) w' (setN m.bd v (m.bi v) v) fp
    rw [setN_at, setN_at]
    exact (hS.set.keep hw').lower h.sz)
  have a2 := a1.putB (k := 2) (.inl (by omega)) hp ((a1.stp.own gr hg).trans hO) (P := rowP c.base c.n m.Vd (setN m.gd v g2)) (fun w' hw' => hrow w' hw')
  refine ⟨_, ⟨a2.all.imp fun j fp w' hj => ?_, a2.stp.low h.low h.sz, Nat.le_trans h.sz a2.stp.size, h.hk, h.nd, h.wl, h.hn, h.hx⟩, a2.stp⟩
  unfold updF at hj
  split at hj
  · rename_i e
    subst e
    show rowP c.base m.k m.Vd (setN m.gd v g2) fp w'
    rw [h.hk]
    exact hj
  rename_i n2
  split at hj
  · rename_i e
    subst e
    rw [comp_at (c := c) (m := { m with gd := setN m.gd v g2, bd := setN m.bd v (m.bi v) }) v 1 (by omega)]
    exact hj
  rename_i ne
  refine comp_up (m := m) j hj rfl (fun _ => rfl) (fun _ => ⟨rfl, rfl⟩) (fun e => absurd e n2) (fun _ => ⟨rfl, rfl⟩) (fun _ => ⟨rfl, rfl⟩) (fun _ => ⟨rfl, rfl⟩) (fun _ => ⟨rfl, rfl⟩) (fun _ _ => ⟨rfl, rfl⟩) (fun x e => ⟨setN_ne _ _ (fun e2 => ne (by subst e2; exact e)), setN_ne _ _ (fun e2 => ne (by subst e2; exact e))⟩) (fun _ _ => ⟨rfl, rfl⟩) (fun _ _ => ⟨rfl, rfl⟩)
set_option maxHeartbeats 16000000 in
theorem sLook {c : Cx} {O : Nat → Nat} {w0 w : World} {m : Mem} (h : SV c O w m) (hT : Tab w0) (hw : Below w0.heap.size w0 w) (hw0 : w0.heap.size = c.base) (hX : RCells w0 c.A1 c.xs) (hY : RCons w0 c.A2 c.ys)
    (hgx : ∀ o, o < c.xs.length → GoodX c.n c.xs[o]!) (hgc : ∀ i, i < c.ys.length → GoodC c.n c.xs.length c.ys[i]!) (hyl : c.ys.length ≤ 131072) {s : St} (hI : Inv c.sys c.n s) {v : Nat} {r : List Nat} (hwk : s.work = v :: r) (hm : m.st = ⟨s.inn, s.don, s.too, r, s.pops + 1⟩) (hF : FrOk c m.fr) :
    Calls Tryd.prog 49 #[.pointer (some ⟨c.gx, 0, none⟩), .int .i64 (v : Int)] w fun e w' => e = .returned (.tuple #[]) ∧ SR c O w m w' (fun a u => Inv c.sys c.n u ∧ u.pops = a.pops) := by
  have hv : v < c.n := hI.dom.work v (by rw [hwk]; simp)
  have hinn : ∀ x o, memB (m.bi x) o = s.inn x o := fun x o => congrFun (congrFun (congrArg St.inn hm) x) o
  have hdon : ∀ x o, memB (m.bd x) o = s.don x o := fun x o => congrFun (congrFun (congrArg St.don hm) x) o
  have htoo : ∀ x o, memB (m.bt x) o = s.too x o := fun x o => congrFun (congrFun (congrArg St.too hm) x) o
  obtain ⟨hbx, hbO⟩ := h.box
  obtain ⟨hri, _⟩ := h.rowI
  obtain ⟨g1, cap1, cur1, hVi, _, hr1, hcell1, _, _⟩ := hri.form hv
  obtain ⟨hrd, hrdO⟩ := h.rowD
  obtain ⟨g2, cap2, cur2, hVd, hfd, hr2, hcell2, hlen2, hput2⟩ := hrd.form hv
  obtain ⟨fi, hPi, hPiO⟩ := h.setI hv
  obtain ⟨fd, hPd, hPdO⟩ := h.setD hv
  have hb' := hbx
  unfold boxV at hb'
  rw [hVi, hVd] at hb'
  have hl1 := blk_len hPi.wf (N := c.xs.length) (fun o ho => (hI.dom.inn v o (by rw [← hinn]; exact ho)).2)
  have hl2 := blk_len hPd.wf (N := c.xs.length) (fun o ho => (hI.dom.inn v o (hI.dom.don v o (by rw [← hdon]; exact ho))).2)
  have hx := h.hx
  have hn := h.hn
  have hc1 := hcell1 v hv
  have hc2 := hcell2 v hv
  unfold ptrV at hc1 hc2
  have hO2 : O g2 = 2 := hrdO _ (by rw [hfd]; simp)
  refine enterR (args := [.pointer (some ⟨c.gx, 0, none⟩), .int .i64 (v : Int)]) tabOk Tryd.func49 rfl Tryd.ntmps49 rfl ?_; conv => whnf
  refine wc_qt 14 14 (stable_Bw _) tabOk mixed (by kernel_rfl) rfl (Below.refl _ _) ?_; conv => whnf
  (repeat' (first | (refine wq_Lg tabOk hb' rfl rfl rfl rfl rfl rfl rfl (run_q tabOk ?_); conv => whnf) | (refine wq_L tabOk rfl rfl rfl rfl rfl rfl hc1 (run_q tabOk ?_); conv => whnf) | (refine wq_L tabOk rfl rfl rfl rfl rfl rfl hc2 (run_q tabOk ?_); conv => whnf) | (refine wq_Xn tabOk 88 1 rfl rfl rfl rfl rfl rfl rfl (by omega) (run_q tabOk ?_); conv => whnf) | (refine wq_add rfl rfl rfl rfl rfl rfl (by omega) (by omega) (run_q tabOk ?_); conv => whnf) | (refine wq_sub rfl rfl rfl rfl rfl rfl (by omega) (by omega) (run_q tabOk ?_); conv => whnf) | (refine wq_cvA tabOk rfl rfl rfl (by simp only [inK]; omega) rfl rfl rfl (run_q tabOk ?_); conv => whnf) | (refine wq_cvB tabOk rfl rfl rfl rfl rfl rfl (run_q tabOk ?_); conv => whnf) | (refine wq_rem rfl rfl rfl rfl rfl rfl (by omega) (by omega) (fun r hr hr0 hr1 hr2 => run_q tabOk ?_); conv => whnf) | (refine wq_quo rfl rfl rfl rfl rfl rfl (by omega) (by omega) (by simp only [inK]; omega) (run_q tabOk ?_); conv => whnf) | (refine wq_mul rfl rfl rfl rfl rfl rfl (by omega) (by omega) (run_q tabOk ?_); conv => whnf) | (refine gs_dt (by first | assumption | omega) ?_; conv => whnf) | (refine gs_df (by first | assumption | omega) ?_; conv => whnf) | (refine gs_t (by assumption) ?_; conv => whnf) | (refine gs_f (by assumption) ?_; conv => whnf) | (refine gs_d (fun hg => ?_) (fun hg => ?_) <;> conv => whnf) | (refine gs_n (fun hg => ?_) (fun hg => ?_) <;> conv => whnf) | (refine gs_nb (fun hg => ?_) (fun hg => ?_) <;> conv => whnf) | (refine gs_b (fun hg => ?_) (fun hg => ?_) <;> conv => whnf)))
  intro w1 _ hB1
  conv => whnf
  refine wl_C fn60 (pLess (hPi.up hB1) (hPd.up hB1) (by omega) (by omega)) rfl rfl rfl rfl rfl rfl rfl ?_
  rintro _ w2 ⟨gm, lm, fm, hL⟩
  rw [hL.ret]
  refine ⟨_, rfl, run_l tabOk ?_⟩
  conv => whnf
  have hB2 := bup hB1 hL.own.below
  have h2 := h.up hB2 98
  have hb2 := blk_up hB2 hb'
  have hc1 := cell_up hB2 hc1
  refine wc_qx [0, 1, 2, 3, 4, 5, 6, 7, 8, 9, 10, 11] 1 13 (stable_Bw _) tabOk mixed (by kernel_rfl) (Below.refl _ _) ?_; (conv => whnf)
  (repeat' (first | (refine wq_Lg tabOk hb2 rfl rfl rfl rfl rfl rfl rfl (run_q tabOk ?_); conv => whnf) | (refine wq_L tabOk rfl rfl rfl rfl rfl rfl hc1 (run_q tabOk ?_); conv => whnf) | (refine wq_Xn tabOk 88 1 rfl rfl rfl rfl rfl rfl rfl (by omega) (run_q tabOk ?_); conv => whnf) | (refine wq_add rfl rfl rfl rfl rfl rfl (by omega) (by omega) (run_q tabOk ?_); conv => whnf) | (refine wq_sub rfl rfl rfl rfl rfl rfl (by omega) (by omega) (run_q tabOk ?_); conv => whnf) | (refine wq_cvA tabOk rfl rfl rfl (by simp only [inK]; omega) rfl rfl rfl (run_q tabOk ?_); conv => whnf) | (refine wq_cvB tabOk rfl rfl rfl rfl rfl rfl (run_q tabOk ?_); conv => whnf) | (refine wq_rem rfl rfl rfl rfl rfl rfl (by omega) (by omega) (fun r hr hr0 hr1 hr2 => run_q tabOk ?_); conv => whnf) | (refine wq_quo rfl rfl rfl rfl rfl rfl (by omega) (by omega) (by simp only [inK]; omega) (run_q tabOk ?_); conv => whnf) | (refine wq_mul rfl rfl rfl rfl rfl rfl (by omega) (by omega) (run_q tabOk ?_); conv => whnf) | (refine gs_dt (by first | assumption | omega) ?_; conv => whnf) | (refine gs_df (by first | assumption | omega) ?_; conv => whnf) | (refine gs_t (by assumption) ?_; conv => whnf) | (refine gs_f (by assumption) ?_; conv => whnf) | (refine gs_d (fun hg => ?_) (fun hg => ?_) <;> conv => whnf) | (refine gs_n (fun hg => ?_) (fun hg => ?_) <;> conv => whnf) | (refine gs_nb (fun hg => ?_) (fun hg => ?_) <;> conv => whnf) | (refine gs_b (fun hg => ?_) (fun hg => ?_) <;> conv => whnf)))
  intro w3 hB3 _
  conv => whnf
  refine And.intro ?_ True.intro
  conv => whnf
  refine wb_C fn61 (pCopy (hPi.up (bup hB2 hB3)) (by omega)) rfl rfl rfl rfl rfl rfl ?_
  rintro _ w4 ⟨gc, fc, rfl, hC⟩
  refine ⟨_, rfl, bup hB3 hC.below, fun w5 hB5 hC5 => ?_⟩
  conv => whnf
  (repeat' (first | (refine wl_Xn tabOk 88 1 rfl rfl rfl rfl rfl rfl rfl (by omega) (run_l tabOk ?_); conv => whnf) | (refine wl_add rfl rfl rfl rfl rfl rfl (by omega) (by omega) (run_l tabOk ?_); conv => whnf) | (refine wl_sub rfl rfl rfl rfl rfl rfl (by omega) (by omega) (run_l tabOk ?_); conv => whnf) | (refine wl_cvA tabOk rfl rfl rfl (by simp only [inK]; omega) rfl rfl rfl (run_l tabOk ?_); conv => whnf) | (refine wl_cvB tabOk rfl rfl rfl rfl rfl rfl (run_l tabOk ?_); conv => whnf) | (refine wl_rem rfl rfl rfl rfl rfl rfl (by omega) (by omega) (fun r hr hr0 hr1 hr2 => run_l tabOk ?_); conv => whnf) | (refine wl_quo rfl rfl rfl rfl rfl rfl (by omega) (by omega) (by simp only [inK]; omega) (run_l tabOk ?_); conv => whnf) | (refine wl_mul rfl rfl rfl rfl rfl rfl (by omega) (by omega) (run_l tabOk ?_); conv => whnf) | (refine gs_dt (by first | assumption | omega) ?_; conv => whnf) | (refine gs_df (by first | assumption | omega) ?_; conv => whnf) | (refine gs_t (by assumption) ?_; conv => whnf) | (refine gs_f (by assumption) ?_; conv => whnf) | (refine gs_d (fun hg => ?_) (fun hg => ?_) <;> conv => whnf) | (refine gs_n (fun hg => ?_) (fun hg => ?_) <;> conv => whnf) | (refine gs_nb (fun hg => ?_) (fun hg => ?_) <;> conv => whnf) | (refine gs_b (fun hg => ?_) (fun hg => ?_) <;> conv => whnf) | refine fin1 rfl rfl ?_))
  have hB45 := bup hC.below hB5
  refine wl_Se (v := .pointer (some ⟨gc, 0, none⟩)) tabOk (blk_up (bup (bup hB2 hB3) hB45) hr2) rfl rfl rfl rfl rfl rfl (by omega) rfl rfl ?_
  intro w6 hp6
  refine run_l tabOk ?_
  conv => whnf
  have h3 := h2.up hB3 97
  have hs26 : w.heap.size ≤ w2.heap.size := hB2.size
  obtain ⟨O6, h6, s36⟩ := h3.doned (g2 := gc) (fp := fc) hv ⟨hC.set.up hB5, hB45⟩ (by rw [newO_old (by have := blk_lt hr2; omega), newO_old (blk_lt hr2)]; exact hO2) (by have := blk_lt hr2; have := hB3.size; omega) (by rw [Nat.mul_one] at hp6; exact hp6) (fun w' hw' => hput2 w' v gc hv hw')
  have s26 : Stp (newO O w.heap.size 98) O6 w2 w6 := (Stp.up hB3 97).trans s36
  have s06 : Stp O O6 w w6 := (Stp.up hB2 98).trans s26
  have hmO : ∀ b ∈ fm, newO O w.heap.size 98 b = 98 := fun b hb => newO_new (by have := (hL.own.set.lt b hb).1; have := hB1.size; omega)
  have hPm : ∀ {W : World} {OW : Nat → Nat}, Stp (newO O w.heap.size 98) OW w2 W → PSet w1.heap.size gm W lm fm := fun hS => hL.own.set.keep fun b hb => hS.fr b (hL.own.set.lt b hb).2 (by rw [hmO b hb]; omega) (by rw [hmO b hb]; omega)
  have hmem : ∀ o, memB lm o = (s.inn v o && !s.don v o) := fun o => by rw [hL.mem, hinn, hdon]
  have hlml : lm.length ≤ c.xs.length := by have := hL.len; omega
  have hlmo : ∀ o, memB lm o = true → o < c.xs.length := fun o ho => by
    rw [hmem] at ho
    simp only [Bool.and_eq_true] at ho
    exact (hI.dom.inn v o ho.1).2
  have hwW : ∀ {W : World} {OW : Nat → Nat}, Stp O OW w W → Below w0.heap.size w0 W := fun hS => hw.trans (by rw [hw0]; exact hS.below h.low h.sz)
  obtain ⟨m2, hm2⟩ : ∃ m2 : Mem, m2 = { m with gd := setN m.gd v gc, bd := setN m.bd v (m.bi v) } := ⟨_, rfl⟩
  have hst2 : m2.st = s.pop v r := by
    subst hm2
    have q1 : m.st.inn = s.inn := by rw [hm]
    have q2 : m.st.too = s.too := by rw [hm]
    have q3 : m.st.work = r := by rw [hm]
    have q4 : m.st.pops = s.pops + 1 := by rw [hm]
    refine st_ext q1 ?_ q2 q3 q4
    funext x o
    show memB (setN m.bd v (m.bi v) x) o = (if x = v then s.inn v else s.don x) o
    unfold setN
    split
    · exact hinn v o
    · exact hdon x o
  have hfr2 : m2.fr = m.fr := by subst hm2; rfl
  have hVr2 : m2.Vr = m.Vr := by subst hm2; rfl
  have hgf2 : m2.gf = m.gf := by subst hm2; rfl
  rw [← hm2] at h6
  clear hm2 s36 h3 hput2 hp6 hB45 hB5 hC hC5 h2 hb2 hc1 hc2
  obtain ⟨hfB, _⟩ := h6.fromB
  obtain ⟨ff, hR, hRO⟩ := h6.fromR hv
  obtain ⟨AF, cF, hVrv, _⟩ := hR.form
  rw [hVrv] at hR
  have hcf : w6.cell? ((⟨m2.gf, 0, none⟩ : Addr).add (v * 1)) = some (.slice AF (m2.fr v).length cF) := by
    rw [Nat.mul_one, add_zero]
    refine cell_blk hfB ?_
    simp [hv, hVrv]
  have hb6 := h6.box.1
  unfold boxV at hb6
  (repeat' (first | (refine wl_Lg tabOk hb6 rfl rfl rfl rfl rfl rfl rfl (run_l tabOk ?_); conv => whnf) | (refine wl_L tabOk rfl rfl rfl rfl rfl rfl hcf (run_l tabOk ?_); conv => whnf) | (refine wl_Xn tabOk 46 1 rfl rfl rfl rfl rfl rfl rfl (by omega) (run_l tabOk ?_); conv => whnf) | (refine wl_add rfl rfl rfl rfl rfl rfl (by omega) (by omega) (run_l tabOk ?_); conv => whnf) | (refine wl_sub rfl rfl rfl rfl rfl rfl (by omega) (by omega) (run_l tabOk ?_); conv => whnf) | (refine wl_cvA tabOk rfl rfl rfl (by simp only [inK]; omega) rfl rfl rfl (run_l tabOk ?_); conv => whnf) | (refine wl_cvB tabOk rfl rfl rfl rfl rfl rfl (run_l tabOk ?_); conv => whnf) | (refine wl_rem rfl rfl rfl rfl rfl rfl (by omega) (by omega) (fun r hr hr0 hr1 hr2 => run_l tabOk ?_); conv => whnf) | (refine wl_quo rfl rfl rfl rfl rfl rfl (by omega) (by omega) (by simp only [inK]; omega) (run_l tabOk ?_); conv => whnf) | (refine wl_mul rfl rfl rfl rfl rfl rfl (by omega) (by omega) (run_l tabOk ?_); conv => whnf) | (refine gs_dt (by first | assumption | omega) ?_; conv => whnf) | (refine gs_df (by first | assumption | omega) ?_; conv => whnf) | (refine gs_t (by assumption) ?_; conv => whnf) | (refine gs_f (by assumption) ?_; conv => whnf) | (refine gs_d (fun hg => ?_) (fun hg => ?_) <;> conv => whnf) | (refine gs_n (fun hg => ?_) (fun hg => ?_) <;> conv => whnf) | (refine gs_nb (fun hg => ?_) (fun hg => ?_) <;> conv => whnf) | (refine gs_b (fun hg => ?_) (fun hg => ?_) <;> conv => whnf) | refine fin1 rfl rfl ?_))
  have hfl := hF.len v hv
  rw [← hfr2] at hfl hF
  have hdom2 : Dom c.n c.xs.length m2.st := by rw [hst2]; exact hI.pop_dom hwk
  have hsnd2 : Sound c.sys m2.st := by rw [hst2]; exact ⟨hI.sound.inn, hI.sound.too⟩
  refine lp_loop tabOk (X := Nat × (Nat → Nat) × Mem) (fun y => [(0, .pointer (some ⟨c.gx, 0, none⟩)), (1, .int .i64 (v : Int)), (4, .pointer (some ⟨gm, 0, none⟩)), (46, .slice AF (m2.fr v).length cF), (47, .int .i64 (m2.fr v).length), (48, .int .i64 y.1)])
    (fun y wr => y.1 ≤ (m2.fr v).length ∧ SV c y.2.1 wr y.2.2 ∧ Stp O6 y.2.1 w6 wr ∧ Grow c.n c.xs.length m2.st y.2.2.st ∧ Dom c.n c.xs.length y.2.2.st ∧ Sound c.sys y.2.2.st ∧ (∀ k, k < y.1 → ∀ o, memB lm o = true → objE y.2.2.st c.ys[(m2.fr v)[k]!]! c.xs[o]!) ∧ y.2.2.fr = m2.fr ∧ y.2.2.Vr = m2.Vr) (fun y => (m2.fr v).length - y.1) (0, O6, m2) ⟨rfl, rfl, rfl, rfl, rfl, rfl, trivial⟩ ⟨by simp, h6, Stp.refl _ _, Grow.refl _, hdom2, hsnd2, fun k hk => by simp at hk, rfl, rfl⟩ ?_
  rintro ⟨i, Oi, mi⟩ G wr ⟨hi, hi2, si, hGi, hDi, hSi, hoi, e1, e2⟩
  simp only at hi hi2 si hGi hDi hSi hoi e1 e2
  conv => whnf
  by_cases hil : i < (m2.fr v).length
  · obtain ⟨ffi, hRi, _⟩ := hi2.fromR hv
    rw [e2, e1, hVrv] at hRi
    obtain ⟨adF, hAF, hcF⟩ := hRi.get hil
    obtain ⟨ii, hii⟩ : ∃ ii, ii = (m2.fr v)[i]! := ⟨_, rfl⟩
    rw [← hii] at hcF
    have hiim : ii ∈ m2.fr v := by rw [hii, getElem!_pos _ i hil]; exact List.getElem_mem hil
    obtain ⟨hiy, hk1, hk2, hsrc⟩ := hF.only v hv ii hiim
    subst hAF
    (repeat' (first | (refine wl_L tabOk rfl rfl rfl rfl rfl rfl hcF (run_l tabOk ?_); conv => whnf) | (refine wl_Xn tabOk 3 1 rfl rfl rfl rfl rfl rfl rfl (by omega) (run_l tabOk ?_); conv => whnf) | (refine wl_add rfl rfl rfl rfl rfl rfl (by omega) (by omega) (run_l tabOk ?_); conv => whnf) | (refine wl_sub rfl rfl rfl rfl rfl rfl (by omega) (by omega) (run_l tabOk ?_); conv => whnf) | (refine wl_cvA tabOk rfl rfl rfl (by simp only [inK]; omega) rfl rfl rfl (run_l tabOk ?_); conv => whnf) | (refine wl_cvB tabOk rfl rfl rfl rfl rfl rfl (run_l tabOk ?_); conv => whnf) | (refine wl_rem rfl rfl rfl rfl rfl rfl (by omega) (by omega) (fun r hr hr0 hr1 hr2 => run_l tabOk ?_); conv => whnf) | (refine wl_quo rfl rfl rfl rfl rfl rfl (by omega) (by omega) (by simp only [inK]; omega) (run_l tabOk ?_); conv => whnf) | (refine wl_mul rfl rfl rfl rfl rfl rfl (by omega) (by omega) (run_l tabOk ?_); conv => whnf) | (refine gs_dt (by first | assumption | omega) ?_; conv => whnf) | (refine gs_df (by first | assumption | omega) ?_; conv => whnf) | (refine gs_t (by assumption) ?_; conv => whnf) | (refine gs_f (by assumption) ?_; conv => whnf) | (refine gs_d (fun hg => ?_) (fun hg => ?_) <;> conv => whnf) | (refine gs_n (fun hg => ?_) (fun hg => ?_) <;> conv => whnf) | (refine gs_nb (fun hg => ?_) (fun hg => ?_) <;> conv => whnf) | (refine gs_b (fun hg => ?_) (fun hg => ?_) <;> conv => whnf) | refine fin1 rfl rfl ?_))
    refine wl_C fn50 (pAll (hPm (s26.trans si)) (by omega) (hT.up (hwW (s06.trans si)))) rfl rfl rfl rfl rfl rfl rfl ?_
    rintro _ w7 ⟨V, rfl, hV, hB7⟩
    obtain ⟨AV, cV, rfl, _, _⟩ := hV.row
    refine ⟨_, rfl, run_l tabOk ?_⟩
    conv => whnf
    have h7 := hi2.up hB7 97
    have s7 : Stp O6 (newO Oi wr.heap.size 97) w6 w7 := si.trans (Stp.up hB7 97)
    have hVO : ∀ b, (Value.slice AV (numsB lm).length cV).ownBlock = some b → b < w7.heap.size ∧ newO Oi wr.heap.size 97 b = 97 := fun b hb => ⟨(hV.olt b hb).2, newO_new (hV.olt b hb).1⟩
    generalize newO Oi wr.heap.size 97 = O7 at h7 s7 hVO
    have hnl := numsB_len lm
    (repeat' (first | (refine wl_add rfl rfl rfl rfl rfl rfl (by omega) (by omega) (run_l tabOk ?_); conv => whnf) | (refine wl_sub rfl rfl rfl rfl rfl rfl (by omega) (by omega) (run_l tabOk ?_); conv => whnf) | (refine wl_cvA tabOk rfl rfl rfl (by simp only [inK]; omega) rfl rfl rfl (run_l tabOk ?_); conv => whnf) | (refine wl_cvB tabOk rfl rfl rfl rfl rfl rfl (run_l tabOk ?_); conv => whnf) | (refine wl_rem rfl rfl rfl rfl rfl rfl (by omega) (by omega) (fun r hr hr0 hr1 hr2 => run_l tabOk ?_); conv => whnf) | (refine wl_quo rfl rfl rfl rfl rfl rfl (by omega) (by omega) (by simp only [inK]; omega) (run_l tabOk ?_); conv => whnf) | (refine wl_mul rfl rfl rfl rfl rfl rfl (by omega) (by omega) (run_l tabOk ?_); conv => whnf) | (refine gs_dt (by first | assumption | omega) ?_; conv => whnf) | (refine gs_df (by first | assumption | omega) ?_; conv => whnf) | (refine gs_t (by assumption) ?_; conv => whnf) | (refine gs_f (by assumption) ?_; conv => whnf) | (refine gs_d (fun hg => ?_) (fun hg => ?_) <;> conv => whnf) | (refine gs_n (fun hg => ?_) (fun hg => ?_) <;> conv => whnf) | (refine gs_nb (fun hg => ?_) (fun hg => ?_) <;> conv => whnf) | (refine gs_b (fun hg => ?_) (fun hg => ?_) <;> conv => whnf) | refine fin1 rfl rfl ?_))
    refine lp_loop tabOk (X := Nat × (Nat → Nat) × Mem) (fun y => [(0, .pointer (some ⟨c.gx, 0, none⟩)), (1, .int .i64 (v : Int)), (4, .pointer (some ⟨gm, 0, none⟩)), (6, .int .i64 (ii : Int)), (46, .slice (some adF) (m2.fr v).length cF), (47, .int .i64 (m2.fr v).length), (48, .int .i64 i), (53, .slice AV (numsB lm).length cV), (54, .int .i64 (numsB lm).length), (55, .int .i64 y.1)])
      (fun y wk => y.1 ≤ (numsB lm).length ∧ SV c y.2.1 wk y.2.2 ∧ Stp O7 y.2.1 w7 wk ∧ Grow c.n c.xs.length mi.st y.2.2.st ∧ Dom c.n c.xs.length y.2.2.st ∧ Sound c.sys y.2.2.st ∧ (∀ k, k < y.1 → objE y.2.2.st c.ys[ii]! c.xs[((numsB lm)[k]!).toNat]!) ∧ y.2.2.fr = m2.fr ∧ y.2.2.Vr = m2.Vr) (fun y => (numsB lm).length - y.1) (0, O7, mi) ⟨rfl, rfl, rfl, rfl, rfl, rfl, rfl, rfl, rfl, rfl, trivial⟩ ⟨by simp, h7, Stp.refl _ _, Grow.refl _, hDi, hSi, fun k hk => by simp at hk, e1, e2⟩ ?_
    rintro ⟨j, Oj, mj⟩ G2 wk ⟨hj, hj2, sj, hGj, hDj, hSj, hoj, e3, e4⟩
    simp only at hj hj2 sj hGj hDj hSj hoj e3 e4
    conv => whnf
    by_cases hjl : j < (numsB lm).length
    · have hVk := hV.reads wk (by
        intro b hb
        obtain ⟨q1, q2⟩ := hVO b (mem_own (by simpa using hb))
        exact sj.fr b q1 (by omega) (by omega))
      obtain ⟨ox, adV, hox, hAV, fo, _⟩ := intsE hVk j hjl
      have hom : ox ∈ numsB lm := by
        rw [← hox.out, getElem!_pos _ j hjl]
        exact List.getElem_mem hjl
      obtain ⟨ho0, hob⟩ := (mem_numsB hL.own.set.wf).1 hom
      obtain ⟨o, rfl⟩ : ∃ o : Nat, ox = o := ⟨ox.toNat, by omega⟩
      rw [Int.toNat_natCast] at hob
      have hoc := hlmo o hob
      subst hAV
      obtain ⟨con, adC, Bc, bc, hcon, hA2, fcon, _, hRc, hck0, hck1, hca, hcb⟩ := consE hY ii hiy
      obtain ⟨cel, adX, Bx, bx, hcel, hA1, fcel, _, hRx, hxv⟩ := cellsE hX o hoc
      have hbk := hj2.box.1
      unfold boxV at hbk
      rw [hA1, hA2] at hbk
      have hwk0 : Below w0.heap.size w0 wk := hwW (s06.trans (s7.trans sj))
      have gc := hgc ii hiy
      have gx := hgx o hoc
      rw [hcon.out] at gc hk1 hk2 hsrc
      rw [hcel.out] at gx
      (repeat' (first | (refine wl_L tabOk rfl rfl rfl rfl rfl rfl fo (run_l tabOk ?_); conv => whnf) | (refine wl_Xn tabOk 3 1 rfl rfl rfl rfl rfl rfl rfl (by omega) (run_l tabOk ?_); conv => whnf) | (refine wl_add rfl rfl rfl rfl rfl rfl (by omega) (by omega) (run_l tabOk ?_); conv => whnf) | (refine wl_sub rfl rfl rfl rfl rfl rfl (by omega) (by omega) (run_l tabOk ?_); conv => whnf) | (refine wl_cvA tabOk rfl rfl rfl (by simp only [inK]; omega) rfl rfl rfl (run_l tabOk ?_); conv => whnf) | (refine wl_cvB tabOk rfl rfl rfl rfl rfl rfl (run_l tabOk ?_); conv => whnf) | (refine wl_rem rfl rfl rfl rfl rfl rfl (by omega) (by omega) (fun r hr hr0 hr1 hr2 => run_l tabOk ?_); conv => whnf) | (refine wl_quo rfl rfl rfl rfl rfl rfl (by omega) (by omega) (by simp only [inK]; omega) (run_l tabOk ?_); conv => whnf) | (refine wl_mul rfl rfl rfl rfl rfl rfl (by omega) (by omega) (run_l tabOk ?_); conv => whnf) | (refine gs_dt (by first | assumption | omega) ?_; conv => whnf) | (refine gs_df (by first | assumption | omega) ?_; conv => whnf) | (refine gs_t (by assumption) ?_; conv => whnf) | (refine gs_f (by assumption) ?_; conv => whnf) | (refine gs_d (fun hg => ?_) (fun hg => ?_) <;> conv => whnf) | (refine gs_n (fun hg => ?_) (fun hg => ?_) <;> conv => whnf) | (refine gs_nb (fun hg => ?_) (fun hg => ?_) <;> conv => whnf) | (refine gs_b (fun hg => ?_) (fun hg => ?_) <;> conv => whnf) | refine fin1 rfl rfl ?_))
      refine wc_qt 17 17 (stable_Bw _) tabOk mixed (by kernel_rfl) rfl (Below.refl _ _) ?_; conv => whnf
      (repeat' (first | (refine wq_Lg tabOk hbk rfl rfl rfl rfl rfl rfl rfl (run_q tabOk ?_); conv => whnf) | (refine wq_Xn tabOk 66 4 rfl rfl rfl rfl rfl rfl rfl (by omega) (run_q tabOk ?_); conv => whnf) | (refine wq_Xn tabOk 71 3 rfl rfl rfl rfl rfl rfl rfl (by omega) (run_q tabOk ?_); conv => whnf) | (refine wq_La tabOk (cellsAt_up hwk0 fcon) rfl rfl rfl rfl rfl rfl (run_q tabOk ?_); conv => whnf) | (refine wq_La tabOk (cellsAt_up hwk0 fcel) rfl rfl rfl rfl rfl rfl (run_q tabOk ?_); conv => whnf) | (refine wq_add rfl rfl rfl rfl rfl rfl (by omega) (by omega) (run_q tabOk ?_); conv => whnf) | (refine wq_sub rfl rfl rfl rfl rfl rfl (by omega) (by omega) (run_q tabOk ?_); conv => whnf) | (refine wq_cvA tabOk rfl rfl rfl (by simp only [inK]; omega) rfl rfl rfl (run_q tabOk ?_); conv => whnf) | (refine wq_cvB tabOk rfl rfl rfl rfl rfl rfl (run_q tabOk ?_); conv => whnf) | (refine wq_rem rfl rfl rfl rfl rfl rfl (by omega) (by omega) (fun r hr hr0 hr1 hr2 => run_q tabOk ?_); conv => whnf) | (refine wq_quo rfl rfl rfl rfl rfl rfl (by omega) (by omega) (by simp only [inK]; omega) (run_q tabOk ?_); conv => whnf) | (refine wq_mul rfl rfl rfl rfl rfl rfl (by omega) (by omega) (run_q tabOk ?_); conv => whnf) | (refine gs_dt (by first | assumption | omega) ?_; conv => whnf) | (refine gs_df (by first | assumption | omega) ?_; conv => whnf) | (refine gs_t (by assumption) ?_; conv => whnf) | (refine gs_f (by assumption) ?_; conv => whnf) | (refine gs_d (fun hg => ?_) (fun hg => ?_) <;> conv => whnf) | (refine gs_n (fun hg => ?_) (fun hg => ?_) <;> conv => whnf) | (refine gs_nb (fun hg => ?_) (fun hg => ?_) <;> conv => whnf) | (refine gs_b (fun hg => ?_) (fun hg => ?_) <;> conv => whnf)))
      intro w8 _ hB8
      conv => whnf
      have h8 := hj2.up hB8 97
      refine wl_C fn62 (sObject h8 hDj con cel Bc Bx bc bx (bup hwk0 hB8) hw0 hRc.out hRx.out ⟨hca.1, gc.a⟩ hcb.1 (fun hk => gc.b (by omega)) ⟨hxv.1, gx.v⟩ gx.args gc.args) rfl rfl rfl rfl rfl rfl rfl ?_
      rintro _ w9 ⟨rfl, O9, m9, h9, s9, hQ, e5, e6⟩
      refine ⟨_, rfl, run_l tabOk ?_⟩
      conv => whnf
      (repeat' (first | (refine wl_add rfl rfl rfl rfl rfl rfl (by omega) (by omega) (run_l tabOk ?_); conv => whnf) | (refine wl_sub rfl rfl rfl rfl rfl rfl (by omega) (by omega) (run_l tabOk ?_); conv => whnf) | (refine wl_cvA tabOk rfl rfl rfl (by simp only [inK]; omega) rfl rfl rfl (run_l tabOk ?_); conv => whnf) | (refine wl_cvB tabOk rfl rfl rfl rfl rfl rfl (run_l tabOk ?_); conv => whnf) | (refine wl_rem rfl rfl rfl rfl rfl rfl (by omega) (by omega) (fun r hr hr0 hr1 hr2 => run_l tabOk ?_); conv => whnf) | (refine wl_quo rfl rfl rfl rfl rfl rfl (by omega) (by omega) (by simp only [inK]; omega) (run_l tabOk ?_); conv => whnf) | (refine wl_mul rfl rfl rfl rfl rfl rfl (by omega) (by omega) (run_l tabOk ?_); conv => whnf) | (refine gs_dt (by first | assumption | omega) ?_; conv => whnf) | (refine gs_df (by first | assumption | omega) ?_; conv => whnf) | (refine gs_t (by assumption) ?_; conv => whnf) | (refine gs_f (by assumption) ?_; conv => whnf) | (refine gs_d (fun hg => ?_) (fun hg => ?_) <;> conv => whnf) | (refine gs_n (fun hg => ?_) (fun hg => ?_) <;> conv => whnf) | (refine gs_nb (fun hg => ?_) (fun hg => ?_) <;> conv => whnf) | (refine gs_b (fun hg => ?_) (fun hg => ?_) <;> conv => whnf) | refine fin1 rfl rfl ?_))
      refine ⟨(j + 1, O9, m9), ⟨rfl, rfl, rfl, rfl, rfl, rfl, rfl, rfl, rfl, rfl, trivial⟩, ⟨by simp only; omega, h9, sj.trans ((Stp.up hB8 97).trans s9), hGj.trans hQ.grow, hQ.dom, hQ.sound c.sys hSj fun N hN => ?_, fun k hk => ?_, e5.trans e3, e6.trans e4⟩, by simp only; omega⟩
      · have hr := (hN ii hiy).2.2
        have hys : c.sys.cons[ii]! = con := hcon.out
        rw [hys] at hr
        have := hr hk1 hk2 o hoc (by
          rw [hsrc]
          refine hI.sound.inn N hN v o ?_
          rw [hmem] at hob
          simp only [Bool.and_eq_true] at hob
          exact hob.1)
        have hxs : c.sys.cells[o]! = cel := hcel.out
        rwa [hxs] at this
      · rcases Nat.lt_or_ge k j with hkj | hkj
        · exact (hoj k hkj).up hQ.grow.too
        · have : k = j := by simp only at hk; omega
          subst this
          rw [hox.out, Int.toNat_natCast, hcon.out, hcel.out]
          exact hQ.there
    · (repeat' (first | (refine wl_add rfl rfl rfl rfl rfl rfl (by omega) (by omega) (run_l tabOk ?_); conv => whnf) | (refine wl_sub rfl rfl rfl rfl rfl rfl (by omega) (by omega) (run_l tabOk ?_); conv => whnf) | (refine wl_cvA tabOk rfl rfl rfl (by simp only [inK]; omega) rfl rfl rfl (run_l tabOk ?_); conv => whnf) | (refine wl_cvB tabOk rfl rfl rfl rfl rfl rfl (run_l tabOk ?_); conv => whnf) | (refine wl_rem rfl rfl rfl rfl rfl rfl (by omega) (by omega) (fun r hr hr0 hr1 hr2 => run_l tabOk ?_); conv => whnf) | (refine wl_quo rfl rfl rfl rfl rfl rfl (by omega) (by omega) (by simp only [inK]; omega) (run_l tabOk ?_); conv => whnf) | (refine wl_mul rfl rfl rfl rfl rfl rfl (by omega) (by omega) (run_l tabOk ?_); conv => whnf) | (refine gs_dt (by first | assumption | omega) ?_; conv => whnf) | (refine gs_df (by first | assumption | omega) ?_; conv => whnf) | (refine gs_t (by assumption) ?_; conv => whnf) | (refine gs_f (by assumption) ?_; conv => whnf) | (refine gs_d (fun hg => ?_) (fun hg => ?_) <;> conv => whnf) | (refine gs_n (fun hg => ?_) (fun hg => ?_) <;> conv => whnf) | (refine gs_nb (fun hg => ?_) (fun hg => ?_) <;> conv => whnf) | (refine gs_b (fun hg => ?_) (fun hg => ?_) <;> conv => whnf) | refine fin1 rfl rfl ?_))
      refine ⟨(i + 1, Oj, mj), ⟨rfl, rfl, rfl, rfl, rfl, rfl, trivial⟩, ⟨by simp only; omega, hj2, s7.trans sj, hGi.trans hGj, hDj, hSj, fun k hk o ho => ?_, e3, e4⟩, by simp only; omega⟩
      rcases Nat.lt_or_ge k i with hki | hki
      · exact (hoi k hki o ho).up hGj.too
      · have : k = i := by simp only at hk; omega
        subst this
        rw [← hii]
        have hm' : ((o : Nat) : Int) ∈ numsB lm := (mem_numsB hL.own.set.wf).2 ⟨by omega, by simpa using ho⟩
        obtain ⟨q, hq, hqe⟩ := List.getElem_of_mem hm'
        have := hoj q (by omega)
        rw [getElem!_pos _ q hq, hqe, Int.toNat_natCast] at this
        exact this
  · obtain ⟨hrt, _⟩ := hi2.rowT
    obtain ⟨g3, cap3, cur3, hVt, _, _, hcell3, _, _⟩ := hrt.form hv
    obtain ⟨ft, hPt, hPtO⟩ := hi2.setT hv
    have hbi := hi2.box.1
    unfold boxV at hbi
    rw [hVt] at hbi
    have hc3 := hcell3 v hv
    unfold ptrV at hc3
    have hlt := blk_len hPt.wf (N := c.n) (fun o ho => (hDi.too v o ho).2)
    (repeat' (first | (refine wl_Lg tabOk hbi rfl rfl rfl rfl rfl rfl rfl (run_l tabOk ?_); conv => whnf) | (refine wl_L tabOk rfl rfl rfl rfl rfl rfl hc3 (run_l tabOk ?_); conv => whnf) | (refine wl_Xn tabOk 88 1 rfl rfl rfl rfl rfl rfl rfl (by omega) (run_l tabOk ?_); conv => whnf) | (refine wl_add rfl rfl rfl rfl rfl rfl (by omega) (by omega) (run_l tabOk ?_); conv => whnf) | (refine wl_sub rfl rfl rfl rfl rfl rfl (by omega) (by omega) (run_l tabOk ?_); conv => whnf) | (refine wl_cvA tabOk rfl rfl rfl (by simp only [inK]; omega) rfl rfl rfl (run_l tabOk ?_); conv => whnf) | (refine wl_cvB tabOk rfl rfl rfl rfl rfl rfl (run_l tabOk ?_); conv => whnf) | (refine wl_rem rfl rfl rfl rfl rfl rfl (by omega) (by omega) (fun r hr hr0 hr1 hr2 => run_l tabOk ?_); conv => whnf) | (refine wl_quo rfl rfl rfl rfl rfl rfl (by omega) (by omega) (by simp only [inK]; omega) (run_l tabOk ?_); conv => whnf) | (refine wl_mul rfl rfl rfl rfl rfl rfl (by omega) (by omega) (run_l tabOk ?_); conv => whnf) | (refine gs_dt (by first | assumption | omega) ?_; conv => whnf) | (refine gs_df (by first | assumption | omega) ?_; conv => whnf) | (refine gs_t (by assumption) ?_; conv => whnf) | (refine gs_f (by assumption) ?_; conv => whnf) | (refine gs_d (fun hg => ?_) (fun hg => ?_) <;> conv => whnf) | (refine gs_n (fun hg => ?_) (fun hg => ?_) <;> conv => whnf) | (refine gs_nb (fun hg => ?_) (fun hg => ?_) <;> conv => whnf) | (refine gs_b (fun hg => ?_) (fun hg => ?_) <;> conv => whnf) | refine fin1 rfl rfl ?_))
    refine wl_C fn50 (pAll hPt (by omega) (hT.up (hwW (s06.trans si)))) rfl rfl rfl rfl rfl rfl rfl ?_
    rintro _ w7 ⟨V, rfl, hV, hB7⟩
    obtain ⟨AV, cV, rfl, _, _⟩ := hV.row
    refine ⟨_, rfl, run_l tabOk ?_⟩
    conv => whnf
    have h7 := hi2.up hB7 97
    have s7 : Stp O6 (newO Oi wr.heap.size 97) w6 w7 := si.trans (Stp.up hB7 97)
    have hVO : ∀ b, (Value.slice AV (numsB (mi.bt v)).length cV).ownBlock = some b → b < w7.heap.size ∧ newO Oi wr.heap.size 97 b = 97 := fun b hb => ⟨(hV.olt b hb).2, newO_new (hV.olt b hb).1⟩
    generalize newO Oi wr.heap.size 97 = O7 at h7 s7 hVO
    have hnl := numsB_len (mi.bt v)
    have hnt := h.hn
    (repeat' (first | (refine wl_add rfl rfl rfl rfl rfl rfl (by omega) (by omega) (run_l tabOk ?_); conv => whnf) | (refine wl_sub rfl rfl rfl rfl rfl rfl (by omega) (by omega) (run_l tabOk ?_); conv => whnf) | (refine wl_cvA tabOk rfl rfl rfl (by simp only [inK]; omega) rfl rfl rfl (run_l tabOk ?_); conv => whnf) | (refine wl_cvB tabOk rfl rfl rfl rfl rfl rfl (run_l tabOk ?_); conv => whnf) | (refine wl_rem rfl rfl rfl rfl rfl rfl (by omega) (by omega) (fun r hr hr0 hr1 hr2 => run_l tabOk ?_); conv => whnf) | (refine wl_quo rfl rfl rfl rfl rfl rfl (by omega) (by omega) (by simp only [inK]; omega) (run_l tabOk ?_); conv => whnf) | (refine wl_mul rfl rfl rfl rfl rfl rfl (by omega) (by omega) (run_l tabOk ?_); conv => whnf) | (refine gs_dt (by first | assumption | omega) ?_; conv => whnf) | (refine gs_df (by first | assumption | omega) ?_; conv => whnf) | (refine gs_t (by assumption) ?_; conv => whnf) | (refine gs_f (by assumption) ?_; conv => whnf) | (refine gs_d (fun hg => ?_) (fun hg => ?_) <;> conv => whnf) | (refine gs_n (fun hg => ?_) (fun hg => ?_) <;> conv => whnf) | (refine gs_nb (fun hg => ?_) (fun hg => ?_) <;> conv => whnf) | (refine gs_b (fun hg => ?_) (fun hg => ?_) <;> conv => whnf) | refine fin1 rfl rfl ?_))
    refine lp_loop tabOk (X := Nat × (Nat → Nat) × Mem) (fun y => [(0, .pointer (some ⟨c.gx, 0, none⟩)), (4, .pointer (some ⟨gm, 0, none⟩)), (86, .slice AV (numsB (mi.bt v)).length cV), (87, .int .i64 (numsB (mi.bt v)).length), (88, .int .i64 y.1)])
      (fun y wk => y.1 ≤ (numsB (mi.bt v)).length ∧ SV c y.2.1 wk y.2.2 ∧ Stp O7 y.2.1 w7 wk ∧ Grow c.n c.xs.length mi.st y.2.2.st ∧ Dom c.n c.xs.length y.2.2.st ∧ Sound c.sys y.2.2.st ∧ y.2.2.st.too = mi.st.too ∧ (∀ k, k < y.1 → ∀ o, memB lm o = true → y.2.2.st.inn ((numsB (mi.bt v))[k]!).toNat o = true) ∧ y.2.2.fr = m2.fr ∧ y.2.2.Vr = m2.Vr) (fun y => (numsB (mi.bt v)).length - y.1) (0, O7, mi) ⟨rfl, rfl, rfl, rfl, rfl, trivial⟩ ⟨by simp, h7, Stp.refl _ _, Grow.refl _, hDi, hSi, rfl, fun k hk => by simp at hk, e1, e2⟩ ?_
    rintro ⟨j, Oj, mj⟩ G2 wk ⟨hj, hj2, sj, hGj, hDj, hSj, htj, hoj, e3, e4⟩
    simp only at hj hj2 sj hGj hDj hSj htj hoj e3 e4
    conv => whnf
    by_cases hjl : j < (numsB (mi.bt v)).length
    · have hVk := hV.reads wk (by
        intro b hb
        obtain ⟨q1, q2⟩ := hVO b (mem_own (by simpa using hb))
        exact sj.fr b q1 (by omega) (by omega))
      obtain ⟨ox, adV, hox, hAV, fo, _⟩ := intsE hVk j hjl
      have hom : ox ∈ numsB (mi.bt v) := by
        rw [← hox.out, getElem!_pos _ j hjl]
        exact List.getElem_mem hjl
      obtain ⟨ho0, hob⟩ := (mem_numsB hPt.wf).1 hom
      obtain ⟨b, rfl⟩ : ∃ b : Nat, ox = b := ⟨ox.toNat, by omega⟩
      rw [Int.toNat_natCast] at hob
      have hbn := (hDi.too v b hob).2
      subst hAV
      (repeat' (first | (refine wl_L tabOk rfl rfl rfl rfl rfl rfl fo (run_l tabOk ?_); conv => whnf) | (refine wl_Xn tabOk 3 1 rfl rfl rfl rfl rfl rfl rfl (by omega) (run_l tabOk ?_); conv => whnf) | (refine wl_add rfl rfl rfl rfl rfl rfl (by omega) (by omega) (run_l tabOk ?_); conv => whnf) | (refine wl_sub rfl rfl rfl rfl rfl rfl (by omega) (by omega) (run_l tabOk ?_); conv => whnf) | (refine wl_cvA tabOk rfl rfl rfl (by simp only [inK]; omega) rfl rfl rfl (run_l tabOk ?_); conv => whnf) | (refine wl_cvB tabOk rfl rfl rfl rfl rfl rfl (run_l tabOk ?_); conv => whnf) | (refine wl_rem rfl rfl rfl rfl rfl rfl (by omega) (by omega) (fun r hr hr0 hr1 hr2 => run_l tabOk ?_); conv => whnf) | (refine wl_quo rfl rfl rfl rfl rfl rfl (by omega) (by omega) (by simp only [inK]; omega) (run_l tabOk ?_); conv => whnf) | (refine wl_mul rfl rfl rfl rfl rfl rfl (by omega) (by omega) (run_l tabOk ?_); conv => whnf) | (refine gs_dt (by first | assumption | omega) ?_; conv => whnf) | (refine gs_df (by first | assumption | omega) ?_; conv => whnf) | (refine gs_t (by assumption) ?_; conv => whnf) | (refine gs_f (by assumption) ?_; conv => whnf) | (refine gs_d (fun hg => ?_) (fun hg => ?_) <;> conv => whnf) | (refine gs_n (fun hg => ?_) (fun hg => ?_) <;> conv => whnf) | (refine gs_nb (fun hg => ?_) (fun hg => ?_) <;> conv => whnf) | (refine gs_b (fun hg => ?_) (fun hg => ?_) <;> conv => whnf) | refine fin1 rfl rfl ?_))
      refine wl_C fn63 (sFlow hj2 hDj b hbn (hPm (s26.trans (s7.trans sj))) hlmo) rfl rfl rfl rfl rfl rfl rfl ?_
      rintro _ w9 ⟨rfl, O9, m9, h9, s9, hQ, e5, e6⟩
      refine ⟨_, rfl, run_l tabOk ?_⟩
      conv => whnf
      (repeat' (first | (refine wl_add rfl rfl rfl rfl rfl rfl (by omega) (by omega) (run_l tabOk ?_); conv => whnf) | (refine wl_sub rfl rfl rfl rfl rfl rfl (by omega) (by omega) (run_l tabOk ?_); conv => whnf) | (refine wl_cvA tabOk rfl rfl rfl (by simp only [inK]; omega) rfl rfl rfl (run_l tabOk ?_); conv => whnf) | (refine wl_cvB tabOk rfl rfl rfl rfl rfl rfl (run_l tabOk ?_); conv => whnf) | (refine wl_rem rfl rfl rfl rfl rfl rfl (by omega) (by omega) (fun r hr hr0 hr1 hr2 => run_l tabOk ?_); conv => whnf) | (refine wl_quo rfl rfl rfl rfl rfl rfl (by omega) (by omega) (by simp only [inK]; omega) (run_l tabOk ?_); conv => whnf) | (refine wl_mul rfl rfl rfl rfl rfl rfl (by omega) (by omega) (run_l tabOk ?_); conv => whnf) | (refine gs_dt (by first | assumption | omega) ?_; conv => whnf) | (refine gs_df (by first | assumption | omega) ?_; conv => whnf) | (refine gs_t (by assumption) ?_; conv => whnf) | (refine gs_f (by assumption) ?_; conv => whnf) | (refine gs_d (fun hg => ?_) (fun hg => ?_) <;> conv => whnf) | (refine gs_n (fun hg => ?_) (fun hg => ?_) <;> conv => whnf) | (refine gs_nb (fun hg => ?_) (fun hg => ?_) <;> conv => whnf) | (refine gs_b (fun hg => ?_) (fun hg => ?_) <;> conv => whnf) | refine fin1 rfl rfl ?_))
      refine ⟨(j + 1, O9, m9), ⟨rfl, rfl, rfl, rfl, rfl, trivial⟩, ⟨by simp only; omega, h9, sj.trans s9, hGj.trans (hQ.grow hbn hlmo), hQ.dom hDj hbn hlmo, hQ.sound hSj fun N hN o ho => ?_, hQ.too.trans htj, fun k hk o ho => ?_, e5.trans e3, e6.trans e4⟩, by simp only; omega⟩
      · refine hSi.too N hN v b hob o (hI.sound.inn N hN v o ?_)
        rw [hmem] at ho
        simp only [Bool.and_eq_true] at ho
        exact ho.1
      · rcases Nat.lt_or_ge k j with hkj | hkj
        · exact (hQ.grow hbn hlmo).inn _ _ (hoj k hkj o ho)
        · have : k = j := by simp only at hk; omega
          subst this
          rw [hox.out, Int.toNat_natCast, hQ.inn, ho]
          simp
    · (repeat' (first | (refine wl_add rfl rfl rfl rfl rfl rfl (by omega) (by omega) (run_l tabOk ?_); conv => whnf) | (refine wl_sub rfl rfl rfl rfl rfl rfl (by omega) (by omega) (run_l tabOk ?_); conv => whnf) | (refine wl_cvA tabOk rfl rfl rfl (by simp only [inK]; omega) rfl rfl rfl (run_l tabOk ?_); conv => whnf) | (refine wl_cvB tabOk rfl rfl rfl rfl rfl rfl (run_l tabOk ?_); conv => whnf) | (refine wl_rem rfl rfl rfl rfl rfl rfl (by omega) (by omega) (fun r hr hr0 hr1 hr2 => run_l tabOk ?_); conv => whnf) | (refine wl_quo rfl rfl rfl rfl rfl rfl (by omega) (by omega) (by simp only [inK]; omega) (run_l tabOk ?_); conv => whnf) | (refine wl_mul rfl rfl rfl rfl rfl rfl (by omega) (by omega) (run_l tabOk ?_); conv => whnf) | (refine gs_dt (by first | assumption | omega) ?_; conv => whnf) | (refine gs_df (by first | assumption | omega) ?_; conv => whnf) | (refine gs_t (by assumption) ?_; conv => whnf) | (refine gs_f (by assumption) ?_; conv => whnf) | (refine gs_d (fun hg => ?_) (fun hg => ?_) <;> conv => whnf) | (refine gs_n (fun hg => ?_) (fun hg => ?_) <;> conv => whnf) | (refine gs_nb (fun hg => ?_) (fun hg => ?_) <;> conv => whnf) | (refine gs_b (fun hg => ?_) (fun hg => ?_) <;> conv => whnf) | refine fin1 rfl rfl ?_))
      refine fin0 rfl ⟨rfl, Oj, mj, hj2, s06.trans (s7.trans sj), ?_, e3.trans hfr2, e4.trans hVr2⟩
      have hpops : mj.st.pops = m.st.pops := by rw [hGj.pops, hGi.pops, hst2, hm]; rfl
      rw [hst2] at hGi
      have hall : ∀ k, k < (m2.fr v).length → ∀ o, memB lm o = true → objE mi.st c.ys[(m2.fr v)[k]!]! c.xs[o]! := fun k hk => hoi k (by omega)
      refine ⟨hI.look hwk hGi hSj hDj (fun i' hi' k1 k2 hs o ho h1 h2 => ?_) hGj htj (fun b hb o h1 h2 => ?_), hpops⟩
      · have hm' := hF.all i' hi' k1 k2
        have hs' : srcOf c.ys[i']! = v := hs
        rw [hs'] at hm'
        obtain ⟨q, hq, hqe⟩ := List.getElem_of_mem hm'
        have := hall q hq o (by rw [hmem, h1, h2]; rfl)
        rw [getElem!_pos _ q hq, hqe] at this
        exact this
      · rw [htj] at hb
        have hm' : ((b : Nat) : Int) ∈ numsB (mi.bt v) := (mem_numsB hPt.wf).2 ⟨by omega, by rw [Int.toNat_natCast]; exact hb⟩
        obtain ⟨q, hq, hqe⟩ := List.getElem_of_mem hm'
        have := hoj q (by omega) o (by rw [hmem, h1, h2]; rfl)
        rw [getElem!_pos _ q hq, hqe, Int.toNat_natCast] at this
        exact this
end Go.Proofs.YtkjbkalakafnlaaDoor

/- least.Points: the least map. -/
namespace Go.Proofs.YtkjbkalakafnlaaDoor
open Go.RowKit
set_option linter.unusedVariables false
set_option linter.unusedSimpArgs false
set_option maxRecDepth 100000
def rowTo (r : List Bool) (k : Nat) : List Int := ((List.range k).filter fun o => r[o]!).map fun (o : Nat) => (o : Int)
def rowPts (r : List Bool) : List Int := rowTo r r.length
def ptsOf (M : Mat) : List (List Int) := M.map rowPts
theorem rowTo_next (r : List Bool) (k : Nat) : rowTo r (k + 1) = if r[k]! then rowTo r k ++ [(k : Int)] else rowTo r k := by
  unfold rowTo
  rw [List.range_succ, List.filter_append, List.map_append]
  cases h : r[k]! with
  | true => rw [List.filter_cons_of_pos (by exact h)]; rfl
  | false => rw [List.filter_cons_of_neg (by rw [h]; simp)]; simp
theorem rowTo_len (r : List Bool) (k : Nat) : (rowTo r k).length ≤ k := by
  unfold rowTo
  rw [List.length_map]
  exact Nat.le_trans (List.length_filter_le _ _) (by simp)
theorem okPts_nil (n nc : Nat) : okPts n nc [] := fun v _ h => by simp at h
theorem matOf_nil (n nc : Nat) : matOf n nc [] = zeroM n nc := by
  simp [matOf, zeroM, rowOf]
  induction n with
  | zero => rfl
  | succ n ih => rw [List.range_succ, List.map_append, ih, List.replicate_succ']; rfl
/-- The rows of M, as far as v. -/
def ptsTo (M : Mat) (n v : Nat) : List (List Int) := ((List.range v).map fun i => rowPts M[i]!) ++ List.replicate (n - v) []
theorem ptsTo_len {M : Mat} {n v : Nat} (h : v ≤ n) : (ptsTo M n v).length = n := by simp [ptsTo]; omega
theorem ptsTo_at {M : Mat} {n v : Nat} (h : v < n) : (ptsTo M n v)[v]! = [] := by
  rw [getElem!_pos _ v (by rw [ptsTo_len (by omega)]; exact h)]
  unfold ptsTo
  rw [List.getElem_append_right (by simp)]
  simp
theorem ptsTo_next {M : Mat} {n v : Nat} (h : v < n) : (ptsTo M n v).set v (rowPts M[v]!) = ptsTo M n (v + 1) := by
  unfold ptsTo
  rw [List.set_append_right _ _ (by simp), List.range_succ, List.map_append, show n - v = (n - (v + 1)) + 1 by omega, List.replicate_succ]
  simp
theorem ptsTo_all {M : Mat} {n c : Nat} (h : Shape n c M) : ptsTo M n n = ptsOf M := by
  unfold ptsTo ptsOf
  refine List.ext_getElem (by simp [h.rows]) fun i h1 h2 => ?_
  have hi : i < n := by simpa using h1
  rw [List.getElem_append_left (by simpa using hi)]
  simp only [List.getElem_map, List.getElem_range]
  rw [getElem!_pos M i (by rw [h.rows]; exact hi)]
theorem GMat.lower {base b' g : Nat} {w : World} {vs : List Value} {M : List (List Int)} {bl : List Nat} (h : GMat base g w vs M bl) (hb : b' ≤ base) : GMat b' g w vs M bl :=
  ⟨h.blk, h.len, Nat.le_trans hb h.hg, h.gb, fun b hm => ⟨Nat.le_trans hb (h.lt b hm).1, (h.lt b hm).2⟩, fun i hi => ⟨(h.row i hi).1.lower hb, (h.row i hi).2⟩, h.ne⟩
end Go.Proofs.YtkjbkalakafnlaaDoor

/- Matrices of truths whose outer row grows by append. -/
namespace Go.Proofs.YtkjbkalakafnlaaDoor
open Go.RowKit
set_option linter.unusedVariables false
set_option linter.unusedSimpArgs false
set_option maxRecDepth 100000
/-- A row of truths, told by its block. -/
def dSl (nc : Nat) : Dec Nat := fun _ cs b => cs = [sl nc b]
structure RM (base : Nat) (w : World) (V : Value) (rb : List Nat) (nc : Nat) (M : Mat) : Prop where
  row : GRow 1 (dSl nc) 84 base w V rb rb
  sh : Shape rb.length nc M
  blk : ∀ i, i < rb.length → w.heap[rb[i]!]? = some (.cells (vb M[i]!).toArray 4 (0, 0))
  inj : ∀ i j, i < rb.length → j < rb.length → i ≠ j → rb[i]! ≠ rb[j]!
section
variable {base : Nat} {w w1 : World} {V V' : Value} {rb : List Nat} {nc : Nat} {M : Mat}
theorem RM.nil (base : Nat) (w : World) (nc : Nat) : RM base w (.slice none 0 0) [] nc [] := ⟨GRow.nil .., ⟨rfl, by simp⟩, by simp, by simp⟩
theorem RM.up (h : RM base w V rb nc M) (hb : Below w.heap.size w w1) : RM base w1 V rb nc M :=
  ⟨h.row.below hb, h.sh, fun i hi => blk_up hb (h.blk i hi), h.inj⟩
theorem RM.lt (h : RM base w V rb nc M) : ∀ k ∈ rb, base ≤ k ∧ k < w.heap.size := h.row.lt
theorem RM.bmat {A : Option Addr} {n c : Nat} (h : RM base w (.slice A n c) rb nc M) : BMat base w A M rb rb.length nc := by
  refine ⟨h.sh, rfl, fun i hi => ?_, h.blk, h.lt, h.inj⟩
  obtain ⟨_, _, hr⟩ := h.row.rowAt
  obtain ⟨ad, cs, e, _, hc, hd⟩ := row_at hr i hi
  subst e
  have hd : cs = [sl nc rb[i]!] := hd
  subst hd
  refine ⟨ad, rfl, fun hm => ?_, hc.1⟩
  exact h.row.ne _ hm rfl
theorem RM.snoc {flat : List Value} {gr : Nat} {r : List Bool} (h : RM base w V rb nc M) (hflat : ∀ w', (∀ b ∈ rb, w'.heap[b]? = w.heap[b]?) → Elems 1 (dSl nc) w' flat rb)
    (hown : w1.ownsRow base 84 1 V' (rb.length + 1) (flat ++ [sl nc gr])) (hg : w.grownBy w1 V.ownBlock) (hob : V'.ownBlock = V.ownBlock ∨ V'.ownBlock = some w.heap.size)
    (hr : w.heap[gr]? = some (.cells (vb r).toArray 4 (0, 0))) (hl : r.length = nc) (hb : base ≤ gr) (hne : some gr ≠ V.ownBlock) (hni : gr ∉ rb) : RM base w1 V' (rb ++ [gr]) nc (M ++ [r]) := by
  have hlt := blk_lt hr
  have hM := h.sh.rows
  refine ⟨h.row.push hflat hown hg hob rfl (bs' := [gr]) (x := gr) (fun _ _ => rfl) (by simp; exact ⟨hb, hlt⟩) (by simpa using hne), ⟨by simp [hM], fun i hi => ?_⟩, fun i hi => ?_, fun i j hi hj hij => ?_⟩
  · have hi : i < rb.length + 1 := by simpa using hi
    rw [get_snoc _ _ (by omega)]
    split
    · exact h.sh.cols i (by omega)
    · exact hl
  · have hi : i < rb.length + 1 := by simpa using hi
    rw [get_snoc _ _ hi, get_snoc _ _ (by omega), hM]
    by_cases hi' : i < rb.length
    · rw [if_pos hi', if_pos hi']
      exact (hg.block _ (h.lt _ (mem_get hi')).2 (h.row.ne _ (mem_get hi'))).trans (h.blk i hi')
    · rw [if_neg hi', if_neg hi']
      exact (hg.block _ hlt hne).trans hr
  · have hi : i < rb.length + 1 := by simpa using hi
    have hj : j < rb.length + 1 := by simpa using hj
    rw [get_snoc _ _ hi, get_snoc _ _ hj]
    by_cases h1 : i < rb.length <;> by_cases h2 : j < rb.length
    · rw [if_pos h1, if_pos h2]; exact h.inj i j h1 h2 hij
    · rw [if_pos h1, if_neg h2]; exact fun e => hni (e ▸ mem_get h1)
    · rw [if_neg h1, if_pos h2]; exact fun e => hni (e ▸ mem_get h2)
    · omega
end
/-- A row of rows of ints, that grows: one more row, of the call's own too. -/
theorem rows_push {base : Nat} {w w1 : World} {V V' : Value} {rows : List (List Int)} {bs : List Nat} {flat : List Value} {A : Option Addr} {c : Nat} {ys : List Int} {b' : Nat}
    (h : GRow 1 dInts 46 base w V rows bs) (hflat : ∀ w', (∀ b ∈ bs, w'.heap[b]? = w.heap[b]?) → Elems 1 dInts w' flat rows)
    (hown : w1.ownsRow base 46 1 V' (rows.length + 1) (flat ++ [.slice A ys.length c])) (hg : w.grownBy w1 V.ownBlock) (hob : V'.ownBlock = V.ownBlock ∨ V'.ownBlock = some w.heap.size)
    (hy : GInts b' w (.slice A ys.length c) ys) (hb : base ≤ b') (hne : ∀ k, (Value.slice A ys.length c).ownBlock = some k → some k ≠ V.ownBlock) : GRow 1 dInts 46 base w1 V' (rows ++ [ys]) (bs ++ (Value.slice A ys.length c).ownBlock.toList) := by
  have hrow := hy.rowAt
  refine h.push hflat hown hg hob rfl (x := ys) (fun w' hw' => ⟨A, c, rfl, hrow.2.1, hy.reads w' (by simpa using hw')⟩) (fun b hb' => ?_) (fun b hb' => ?_)
  · have e := mem_own hb'
    have := hy.olt b e
    omega
  · exact hne b (mem_own hb')
end Go.Proofs.YtkjbkalakafnlaaDoor

/- solve.Least: what its loops do to the memory and to what stands. -/
namespace Go.Proofs.YtkjbkalakafnlaaDoor
open Go.RowKit
set_option linter.unusedVariables false
set_option linter.unusedSimpArgs false
theorem fin3 {P : Program} {F : Fm} {w : World} {fn : Func} {R : Ending → World → Prop} {s t r : Tmp} {u v x : Value} (hr : fn.results = #[.tmp s, .tmp t, .tmp r]) (hu : opn (F s) = some u) (hv : opn (F t) = some v) (hx : opn (F r) = some x) (h : R (.returned (.tuple #[u, v, x])) w) : Fin P fn R F w := by
  rw [opn_eq] at hu hv hx
  have hu := Option.some.inj hu
  have hv := Option.some.inj hv
  have hx := Option.some.inj hx
  unfold Fin retQ
  intro tmps ht
  refine ⟨.tuple #[u, v, x], ?_, h⟩
  have e1 := ht s
  have e2 := ht t
  have e3 := ht r
  rw [hu] at e1
  rw [hv] at e2
  rw [hx] at e3
  simp only [Array.getD_eq_getD_getElem?] at e1 e2 e3
  simp [results, hr, e1, e2, e3]
theorem SV.fromPut {c : Cx} {O : Nat → Nat} {w1 w2 w3 w4 : World} {m : Mem} {v i : Nat} {V' : Value} {fp fp' : List Nat} (h : SV c O w1 m) (hv : v < c.n) (hk : Kept fp w1 w2) (hfp : ∀ b ∈ fp, O b = 100 + 4 * v + 3) (hq : QRow c.base V' (m.fr v ++ [i]) fp' w2)
    (hnew : ∀ b ∈ fp', b ∈ fp ∨ w1.heap.size ≤ b) (hb : Below w2.heap.size w2 w3) (hp : Put w3 w4 m.gf (((List.range c.n).map m.Vr).set v V') 46) :
    ∃ O2, SV c O2 w4 { m with Vr := setN m.Vr v V', fr := setN m.fr v (m.fr v ++ [i]) } ∧ Stp O O2 w1 w4 := by
  obtain ⟨hgb, hgO⟩ := h.fromB
  have hlt := hq.lt
  have a1 := (AS.start h.all).put (k := 100 + 4 * v + 3) (P := comp7 c { m with Vr := setN m.Vr v V', fr := setN m.fr v (m.fr v ++ [i]) } v 3) (.inr (by omega)) hk (fun b hb _ => hfp b hb) (fp := fp') (fun b hb => ⟨fun hl => (hnew b hb).elim (fun e => hfp b e) (fun e => by omega), (hlt b hb).2⟩) (fun w' hw' => by
    refine ⟨fun e => absurd e (by omega), fun e => absurd e (by omega), fun e => absurd e (by omega), fun _ _ => ?_⟩
    show QRow c.base (setN m.Vr v V' v) (setN m.fr v (m.fr v ++ [i]) v) fp' w'
    rw [setN_at, setN_at]
    exact hq.keep hw')
  have a2 := a1.up hb 97
  have a3 := a2.putB (k := 4) (.inl (by omega)) hp ((a2.stp.own _ (blk_lt hgb)).trans hgO) (P := fun fp w => fp = [m.gf] ∧ w.heap[m.gf]? = some (.cells ((List.range c.n).map (setN m.Vr v V')).toArray 46 (0, 0))) (fun w' hw' => ⟨rfl, by rw [hw', range_set]⟩)
  refine ⟨_, ⟨a3.all.imp fun j fp w' hj => ?_, a3.stp.low h.low h.sz, Nat.le_trans h.sz a3.stp.size, h.hk, h.nd, h.wl, h.hn, h.hx⟩, a3.stp⟩
  unfold updF at hj
  split at hj
  · rename_i e; subst e; exact hj
  rename_i n4
  split at hj
  · rename_i e
    subst e
    rw [comp_at (c := c) (m := { m with Vr := setN m.Vr v V', fr := setN m.fr v (m.fr v ++ [i]) }) v 3 (by omega)]
    exact hj
  rename_i ne
  exact comp_up (m := m) j hj rfl (fun _ => rfl) (fun _ => ⟨rfl, rfl⟩) (fun _ => ⟨rfl, rfl⟩) (fun _ => ⟨rfl, rfl⟩) (fun e => absurd e n4) (fun _ => ⟨rfl, rfl⟩) (fun _ => ⟨rfl, rfl⟩) (fun _ _ => ⟨rfl, rfl⟩) (fun _ _ => ⟨rfl, rfl⟩) (fun _ _ => ⟨rfl, rfl⟩) (fun x e => ⟨setN_ne _ _ (fun e2 => ne (by subst e2; exact e)), setN_ne _ _ (fun e2 => ne (by subst e2; exact e))⟩)
theorem onV_drop {n v : Nat} {r : List Nat} (h : (v :: r).Nodup) : (onV n (v :: r)).set v (.bool false) = onV n r := by
  unfold onV
  rw [range_set]
  congr 1
  funext j
  unfold setN
  have hn : v ∉ r := (List.nodup_cons.1 h).1
  by_cases e : j = v
  · subst e; simp [hn]
  · simp [e]
theorem SV.popped {c : Cx} {O : Nat → Nat} {w1 w2 w3 w4 : World} {m : Mem} {v : Nat} {r : List Nat} {V' : Value} {fp' : List Nat} (h : SV c O w1 m) (hw : m.wk = v :: r) (hq : QRow c.base V' r fp' w1) (hfp : ∀ b ∈ fp', O b = 5)
    (hp1 : Put w1 w2 c.gx ((boxV c m).set 7 V') 87) (hp2 : Put w2 w3 m.go ((onV c.n m.wk).set v (.bool false)) 4) (hp3 : Put w3 w4 c.gx (((boxV c m).set 7 V').set 9 (.int .i64 ((m.pops : Int) + 1))) 87) :
    ∃ O2, SV c O2 w4 { m with wk := r, Vw := V', pops := m.pops + 1 } ∧ Stp O O2 w1 w4 := by
  obtain ⟨hb, hbO⟩ := h.box
  obtain ⟨hon, honO⟩ := h.onB
  have hlt := hq.lt
  have hnd := h.nd
  rw [hw] at hnd
  have a1 := (AS.start h.all).put (k := 5) (P := QRow c.base V' r) (rb := []) (.inl (by omega)) (Kept.refl _ w1) (by simp) (fp := fp') (fun b hb => ⟨fun _ => hfp b hb, (hlt b hb).2⟩) (fun w' hw' => hq.keep hw')
  have a2 := a1.putB (k := 0) (P := fun _ _ => True) (.inl (by omega)) hp1 ((a1.stp.own _ (blk_lt hb)).trans hbO) (fun _ _ => trivial)
  have a3 := a2.putB (k := 6) (P := fun fp w => fp = [m.go] ∧ w.heap[m.go]? = some (.cells (onV c.n r).toArray 4 (0, 0))) (.inl (by omega)) hp2 ((a2.stp.own _ (blk_lt hon)).trans honO) (fun w' hw' => ⟨rfl, by rw [hw', hw, onV_drop hnd]⟩)
  have a4 := a3.putB (k := 0) (P := fun fp w => fp = [c.gx] ∧ w.heap[c.gx]? = some (.cells (boxV c { m with wk := r, Vw := V', pops := m.pops + 1 }).toArray 87 (0, 0))) (.inl (by omega)) hp3 ((a3.stp.own _ (blk_lt hb)).trans hbO) (fun w' hw' => ⟨rfl, by rw [hw']; rfl⟩)
  refine ⟨_, ⟨a4.all.imp fun j fp w' hj => ?_, a4.stp.low h.low h.sz, Nat.le_trans h.sz a4.stp.size, h.hk, (List.nodup_cons.1 hnd).2, fun x hx => h.wl x (by rw [hw]; exact List.mem_cons_of_mem _ hx), h.hn, h.hx⟩, a4.stp⟩
  unfold updF at hj
  split at hj
  · rename_i e; subst e; exact hj
  rename_i n0
  split at hj
  · rename_i e; subst e; exact hj
  rename_i n6
  split at hj
  · rename_i e; subst e; exact hj
  rename_i n5
  exact comp_up (m := m) j hj rfl (fun e => absurd e n0) (fun _ => ⟨rfl, rfl⟩) (fun _ => ⟨rfl, rfl⟩) (fun _ => ⟨rfl, rfl⟩) (fun _ => ⟨rfl, rfl⟩) (fun e => absurd e n5) (fun e => absurd e n6) (fun _ _ => ⟨rfl, rfl⟩) (fun _ _ => ⟨rfl, rfl⟩) (fun _ _ => ⟨rfl, rfl⟩) (fun _ _ => ⟨rfl, rfl⟩)
/-- What is in a variable, told. -/
theorem rowPts_numsB {bs : List Blk} (hw : WFB bs) {n nc v : Nat} {f : Rel} (hv : v < n) (hf : ∀ o, f v o = memB bs o) (hc : ∀ o, memB bs o = true → o < nc) : (ptsOf (matB n nc f))[v]! = numsB bs := by
  have hs := matB_shape n nc f
  have hl : (ptsOf (matB n nc f)).length = n := by simp [ptsOf, hs.rows]
  have hM : (matB n nc f)[v]!.length = nc := hs.cols v hv
  rw [getElem!_pos _ v (by rw [hl]; exact hv)]
  have e : (ptsOf (matB n nc f))[v]'(by rw [hl]; exact hv) = rowPts (matB n nc f)[v]! := by
    rw [getElem!_pos (matB n nc f) v (by rw [hs.rows]; exact hv)]
    simp [ptsOf]
  rw [e]
  refine (numsB_is hw ?_ (fun x hx => ?_) (fun o => ?_)).symm
  · unfold rowPts rowTo
    refine List.Pairwise.map _ (fun a b h => ?_) ((List.pairwise_lt_range).filter _)
    omega
  · obtain ⟨o, _, rfl⟩ := List.mem_map.1 hx
    omega
  · rw [Bool.eq_iff_iff, decide_eq_true_eq]
    unfold rowPts rowTo
    rw [List.mem_map]
    constructor
    · intro h
      have ho := hc o h
      refine ⟨o, ?_, rfl⟩
      rw [List.mem_filter, List.mem_range, hM]
      refine ⟨ho, ?_⟩
      show mg (matB n nc f) v o = true
      rw [mg_matB f hv ho, hf, h]
    · rintro ⟨q, hq, e⟩
      have : q = o := by omega
      subst this
      rw [List.mem_filter, List.mem_range, hM] at hq
      have h2 : mg (matB n nc f) v q = true := hq.2
      rw [mg_matB f hv hq.1, hf] at h2
      exact h2
/-- What stands while the constraints are taken in. -/
structure InvI (S : Sys) (n i : Nat) (t : St) : Prop where
  dom : Dom n S.cells.length t
  sound : Sound S t
  don : ∀ v o, t.don v o = false
  wk : ∀ v, v ∉ t.work → ∀ o, t.inn v o = false
  pay : t.work.length ≤ cnt (matB n S.cells.length t.inn)
  pops : t.pops = 0
  base : ∀ j, j < i → S.cons[j]!.k = 1 → t.inn S.cons[j]!.a.toNat S.cons[j]!.b.toNat = true
  copy : ∀ j, j < i → S.cons[j]!.k = 2 → t.too S.cons[j]!.b.toNat S.cons[j]!.a.toNat = true
theorem lt_succ_cases {p : Nat → Prop} {i : Nat} (h : ∀ j, j < i → p j) (hi : p i) : ∀ j, j < i + 1 → p j := fun j hj => by
  rcases Nat.lt_or_ge j i with h1 | h1
  · exact h j h1
  · have : j = i := by omega
    subst this; exact hi
theorem InvI.all {S : Sys} {n : Nat} {t : St} (h : InvI S n S.cons.length t) : Inv S n t := by
  refine ⟨h.dom, h.sound, fun v hv => ?_, by rw [h.pops, Nat.zero_add]; exact h.pay, fun a b _ o e => (by rw [h.don] at e; cases e), fun j hj hk => h.base j hj hk, fun j hj hk => h.copy j hj hk, fun j _ _ _ o _ e => (by rw [h.don] at e; cases e)⟩
  funext o
  rw [h.wk v hv, h.don]
/-- A constraint that is of another kind. -/
theorem InvI.skip {S : Sys} {n i : Nat} {t : St} (h : InvI S n i t) (h1 : ¬ S.cons[i]!.k = 1) (h2 : ¬ S.cons[i]!.k = 2) : InvI S n (i + 1) t :=
  ⟨h.dom, h.sound, h.don, h.wk, h.pay, h.pops, lt_succ_cases h.base fun e => absurd e h1, lt_succ_cases h.copy fun e => absurd e h2⟩
/-- An object comes into a variable. -/
theorem InvI.flow {S : Sys} {n i a b : Nat} {s t : St} (h : InvI S n i s) (hi : i < S.cons.length) (hk : S.cons[i]!.k = 1) (ha : S.cons[i]!.a = a) (hb : S.cons[i]!.b = b) (han : a < n) (hbn : b < S.cells.length) (hf : FlowR a (fun o => decide (o = b)) s t) : InvI S n (i + 1) t := by
  have hl : ∀ o, decide (o = b) = true → o < S.cells.length := fun o ho => by simp at ho; omega
  have hg := hf.grow han hl
  refine ⟨hf.dom h.dom han hl, hf.sound h.sound fun N hN o ho => ?_, fun v o => by rw [hg.don]; exact h.don v o, fun v hv o => ?_, ?_, by rw [hg.pops]; exact h.pops, lt_succ_cases (fun j hj e => hg.inn _ _ (h.base j hj e)) fun _ => ?_, lt_succ_cases (fun j hj e => hg.too _ _ (h.copy j hj e)) fun e => by omega⟩
  · simp at ho
    subst ho
    have := (hN i hi).1 hk
    rwa [ha, hb, Int.toNat_natCast, Int.toNat_natCast] at this
  · rw [hg.new v hv]
    exact h.wk v (fun e => hv (hg.work v e)) o
  · have := hg.pay; have := h.pay; omega
  · rw [ha, hb, Int.toNat_natCast, Int.toNat_natCast, hf.inn]; simp
/-- An edge. -/
theorem InvI.edge {S : Sys} {n i a b : Nat} {s t : St} (h : InvI S n i s) (hi : i < S.cons.length) (hk : S.cons[i]!.k = 2) (ha : S.cons[i]!.a = a) (hb : S.cons[i]!.b = b) (han : a < n) (hbn : b < n) (h1 : t.inn = s.inn) (h2 : t.don = s.don) (h3 : ∀ x y, t.too x y = (s.too x y || (decide (x = b) && decide (y = a)))) (h4 : t.work = s.work) (h5 : t.pops = s.pops) : InvI S n (i + 1) t := by
  refine ⟨⟨fun v o e => h.dom.inn v o (by rw [← h1]; exact e), fun v o e => (by rw [h2, h.don] at e; cases e), fun x y e => ?_, fun v e => h.dom.work v (by rw [← h4]; exact e)⟩, ⟨fun N hN v o e => h.sound.inn N hN v o (by rw [← h1]; exact e), fun N hN x y e o ho => ?_⟩, fun v o => by rw [h2]; exact h.don v o, fun v hv o => by rw [h1]; exact h.wk v (by rw [← h4]; exact hv) o, by rw [h1, h4]; exact h.pay, by rw [h5]; exact h.pops, lt_succ_cases (fun j hj e => by rw [h1]; exact h.base j hj e) fun e => by omega, lt_succ_cases (fun j hj e => by rw [h3, h.copy j hj e]; rfl) fun _ => ?_⟩
  · rw [h3] at e
    simp only [Bool.or_eq_true, Bool.and_eq_true, decide_eq_true_eq] at e
    rcases e with e | ⟨rfl, rfl⟩
    · exact h.dom.too x y e
    · exact ⟨hbn, han⟩
  · rw [h3] at e
    simp only [Bool.or_eq_true, Bool.and_eq_true, decide_eq_true_eq] at e
    rcases e with e | ⟨rfl, rfl⟩
    · exact h.sound.too N hN x y e o ho
    · have := (hN i hi).2.1 hk
      rw [ha, hb] at this
      have := this (by omega) (by omega) o
      simp only [Int.toNat_natCast] at this
      exact this ho
  · rw [ha, hb, Int.toNat_natCast, Int.toNat_natCast, h3]; simp
/-- Which of the first i constraints look at what v points to. -/
structure FrI (ys : List Con) (n i : Nat) (fr : Nat → List Nat) : Prop where
  all : ∀ j, j < i → ¬ ys[j]!.k = 1 → ¬ ys[j]!.k = 2 → j ∈ fr (srcOf ys[j]!)
  only : ∀ v, ∀ j ∈ fr v, j < i ∧ ¬ ys[j]!.k = 1 ∧ ¬ ys[j]!.k = 2 ∧ srcOf ys[j]! = v
  len : ∀ v, (fr v).length ≤ i
theorem FrI.skip {ys : List Con} {n i : Nat} {fr : Nat → List Nat} (h : FrI ys n i fr) (hk : ys[i]!.k = 1 ∨ ys[i]!.k = 2) : FrI ys n (i + 1) fr :=
  ⟨lt_succ_cases h.all fun h1 h2 => by omega, fun v j hj => let ⟨a, b⟩ := h.only v j hj; ⟨by omega, b⟩, fun v => by have := h.len v; omega⟩
theorem FrI.push {ys : List Con} {n i : Nat} {fr : Nat → List Nat} (h : FrI ys n i fr) (h1 : ¬ ys[i]!.k = 1) (h2 : ¬ ys[i]!.k = 2) : FrI ys n (i + 1) (setN fr (srcOf ys[i]!) (fr (srcOf ys[i]!) ++ [i])) := by
  refine ⟨lt_succ_cases (fun j hj a b => ?_) fun _ _ => by rw [setN_at]; simp, fun v j hj => ?_, fun v => ?_⟩
  · have := h.all j hj a b
    unfold setN
    split
    · rename_i e; rw [← e]; exact List.mem_append_left _ this
    · exact this
  · unfold setN at hj
    split at hj
    · rename_i e
      rcases List.mem_append.1 hj with hj | hj
      · obtain ⟨a, b, c, d⟩ := h.only _ j hj
        exact ⟨by omega, b, c, by rw [d, e]⟩
      · simp at hj; subst hj; exact ⟨by omega, h1, h2, e.symm⟩
    · obtain ⟨a, b⟩ := h.only v j hj
      exact ⟨by omega, b⟩
  · unfold setN
    split
    · have := h.len (srcOf ys[i]!); rw [List.length_append, List.length_singleton]; omega
    · have := h.len v; omega
theorem FrI.ok {c : Cx} {fr : Nat → List Nat} (h : FrI c.ys c.n c.ys.length fr) : FrOk c fr := ⟨h.all, fun v _ => h.only v, fun v _ => h.len v⟩
end Go.Proofs.YtkjbkalakafnlaaDoor
