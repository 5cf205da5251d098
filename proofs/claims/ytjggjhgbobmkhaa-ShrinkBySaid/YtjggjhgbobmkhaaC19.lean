/- Several texts of one claim in one file: OF17 OP17 OL17 PA17 PB17. -/
import Derived.Test.YtjggjhgbobmkhaaC14
import Derived.Test.YtjggjhgbobmkhaaC6
import Derived.Test.YtjggjhgbobmkhaaC8
import Derived.Test.YtjggjhgbobmkhaaC13
/- ovs.label: a knot's label, by what comes into it. -/
namespace Go.Proofs.Ytjggjhgbobmkhaa
open Go.RowKit
set_option linter.unusedVariables false
set_option linter.unusedSimpArgs false
set_option maxRecDepth 100000
/-- A fresh number. -/
theorem oFresh (g m : Nat) (w : World) (hb : w.heap[g]? = some (.cells #[.int .i64 (m : Int)] 3 (0, 0))) (hm : m < 9223372036854775807) :
    Calls Try.prog 42 #[.pointer (some ⟨g, 0, none⟩)] w fun e w' => e = .returned (.int .i64 (m : Int)) ∧ Put w w' g [.int .i64 ((m + 1 : Nat) : Int)] 3 := by
  refine enterR (args := [.pointer (some ⟨g, 0, none⟩)]) tabOk Try.func42 rfl Try.ntmps42 rfl ?_; conv => whnf
  (repeat' (first | (refine wl_Lg tabOk hb rfl rfl rfl rfl rfl rfl rfl (run_l tabOk ?_); conv => whnf) | ((first | refine wl_add rfl rfl rfl rfl rfl rfl (by omega) (by omega) (run_l tabOk ?_) | refine wl_sub rfl rfl rfl rfl rfl rfl (by omega) (by omega) (run_l tabOk ?_) | refine gs_dt (by first | assumption | omega) ?_ | refine gs_df (by first | assumption | omega) ?_ | refine gs_t (by assumption) ?_ | refine gs_f (by assumption) ?_ | refine gs_d (fun hg => ?_) (fun hg => ?_) | refine gs_n (fun hg => ?_) (fun hg => ?_) | refine gs_nb (fun hg => ?_) (fun hg => ?_) | refine gs_b (fun hg => ?_) (fun hg => ?_)) <;> conv => whnf) | refine fin1 rfl rfl ?_))
  refine wl_S (off := 0) (v := .int .i64 ((m + 1 : Nat) : Int)) tabOk hb rfl rfl rfl rfl rfl rfl (by simp) rfl rfl ?_
  intro w1 hp
  refine run_l tabOk ?_
  conv => whnf
  have hb1 : w1.heap[g]? = some (.cells #[.int .i64 ((m + 1 : Nat) : Int)] 3 (0, 0)) := hp.blk
  (repeat' (first | (refine wl_Lg tabOk hb1 rfl rfl rfl rfl rfl rfl rfl (run_l tabOk ?_); conv => whnf) | ((first | refine wl_add rfl rfl rfl rfl rfl rfl (by omega) (by omega) (run_l tabOk ?_) | refine wl_sub rfl rfl rfl rfl rfl rfl (by omega) (by omega) (run_l tabOk ?_) | refine gs_dt (by first | assumption | omega) ?_ | refine gs_df (by first | assumption | omega) ?_ | refine gs_t (by assumption) ?_ | refine gs_f (by assumption) ?_ | refine gs_d (fun hg => ?_) (fun hg => ?_) | refine gs_n (fun hg => ?_) (fun hg => ?_) | refine gs_nb (fun hg => ?_) (fun hg => ?_) | refine gs_b (fun hg => ?_) (fun hg => ?_)) <;> conv => whnf) | refine fin1 rfl rfl ?_))
  exact ⟨by congr 2; omega, hp⟩
/-- What a label is. -/
def labelO (S W : List Int) (f : Int → Option Nat) (m : Nat) : Int × Nat × (Int → Option Nat) :=
  match S with
  | x :: _ => (x, m, f)
  | [] => match W with
    | o :: _ => match f o with
      | some q => ((q : Int), m, f)
      | none => ((m : Int), m + 1, putN f o m)
    | [] => (-1, m, f)
def labelF (S W : List Int) (loose : Bool) (f : Int → Option Nat) (m : Nat) : Int × Nat × (Int → Option Nat) :=
  if loose = true ∨ 1 < W.length ∨ 1 < S.length ∨ (W.length = 1 ∧ S.length = 1) then ((m : Int), m + 1, f) else labelO S W f m
/-- The function that gives fresh numbers. -/
def freshV (gn : Nat) : Value := .func (.func 42) #[] #[.pointer (some ⟨gn, 0, none⟩)]
/-- What a label's call leaves. -/
structure OL (w w' : World) (gn bo : Nat) (m : Nat) (f : Int → Option Nat) (no : Nat) : Prop where
  cell : w'.heap[gn]? = some (.cells #[.int .i64 (m : Int)] 3 (0, 0))
  obj : INum w' bo f no
  kept : Kept [gn, bo] w w'
theorem OL.mono {w w' : World} {gn bo m no : Nat} {f : Int → Option Nat} (h : OL w w' gn bo m f (no + 1)) : OL w w' gn bo m f (no + 2) := ⟨h.cell, by obtain ⟨D, q1, q2⟩ := h.obj.ex; exact ⟨D, q1.mono (by omega), q2⟩, h.kept⟩
theorem INum.ne {w : World} {bo gn no : Nat} {f : Int → Option Nat} {cs : Array Value} {t : TypeId} {fr : Nat × Nat} (h : INum w bo f no) (hg : w.heap[gn]? = some (.cells cs t fr)) : bo ≠ gn := by
  obtain ⟨D, ⟨es, clock, hb, _⟩, _⟩ := h.ex
  intro e
  rw [e, hg] at hb
  cases hb
theorem labelF_fresh {S W : List Int} {loose : Bool} {f : Int → Option Nat} {m : Nat} (h : loose = true ∨ 1 < W.length ∨ 1 < S.length ∨ (W.length = 1 ∧ S.length = 1)) : labelF S W loose f m = ((m : Int), m + 1, f) := if_pos h
set_option maxHeartbeats 4000000 in
theorem oLabel {w : World} {bs bw bo gn ns nw no m : Nat} {S W : List Int} {f : Int → Option Nat} (loose : Bool) (hS : ISet w bs S ns) (hW : ISet w bw W nw) (hO : INum w bo f no) (hg : w.heap[gn]? = some (.cells #[.int .i64 (m : Int)] 3 (0, 0)))
    (hm : m < 4611686018427387904) (hno : no < 4611686018427387904) (hSi : ∀ x ∈ S, inI x) (hWi : ∀ x ∈ W, inI x) :
    Calls Try.prog 43 #[.map (some bs), .map (some bw), .bool loose, .map (some bo), freshV gn] w fun e w' => e = .returned (.int .i64 (labelF S W loose f m).1) ∧ OL w w' gn bo (labelF S W loose f m).2.1 (labelF S W loose f m).2.2 (no + 2) := by
  have hne := hO.ne hg
  have hgl := blk_lt hg
  have hol := hO.lt
  have hfr : ∀ w0, OL w w0 gn bo m f (no + 1) → Calls Try.prog 42 #[.pointer (some ⟨gn, 0, none⟩)] w0 fun e w' => e = .returned (.int .i64 (m : Int)) ∧ OL w w' gn bo (m + 1) f (no + 1) := fun w0 h0 => by
    refine (oFresh gn m w0 h0.cell (by omega)).mono ?_
    rintro e w' ⟨he, hp⟩
    exact ⟨he, hp.blk, h0.obj.kept hp.grown (by intro e; injection e with e; exact hne e), Kept.put h0.kept hp (.inl (by simp))⟩
  have hid : OL w w gn bo m f (no + 1) := ⟨hg, by obtain ⟨D, q1, q2⟩ := hO.ex; exact ⟨D, q1.mono (by omega), q2⟩, Kept.refl _ _⟩
  refine enterR (args := [.map (some bs), .map (some bw), .bool loose, .map (some bo), freshV gn]) tabOk Try.func43 rfl Try.ntmps43 rfl ?_; conv => whnf
  by_cases hc : loose = true ∨ 1 < W.length ∨ 1 < S.length ∨ (W.length = 1 ∧ S.length = 1)
  · rw [labelF_fresh hc]
    cases loose with
    | true =>
      conv => whnf
      (repeat' (first | (refine wl_lenM (hS.len setTy) rfl rfl rfl rfl rfl rfl rfl rfl (run_l tabOk ?_); (conv => whnf)) | (refine wl_lenM (hW.len setTy) rfl rfl rfl rfl rfl rfl rfl rfl (run_l tabOk ?_); (conv => whnf)) | ((first | refine wl_add rfl rfl rfl rfl rfl rfl (by omega) (by omega) (run_l tabOk ?_) | refine wl_sub rfl rfl rfl rfl rfl rfl (by omega) (by omega) (run_l tabOk ?_) | refine gs_dt (by first | assumption | omega) ?_ | refine gs_df (by first | assumption | omega) ?_ | refine gs_t (by assumption) ?_ | refine gs_f (by assumption) ?_ | refine gs_d (fun hg => ?_) (fun hg => ?_) | refine gs_n (fun hg => ?_) (fun hg => ?_) | refine gs_nb (fun hg => ?_) (fun hg => ?_) | refine gs_b (fun hg => ?_) (fun hg => ?_)) <;> conv => whnf) | refine fin1 rfl rfl ?_))
      refine wl_CF fn42 (first := []) (args := []) (caps := [.pointer (some ⟨gn, 0, none⟩)]) (hfr w hid) rfl rfl rfl rfl rfl rfl rfl ?_
      rintro _ w1 ⟨rfl, hO1⟩
      refine ⟨_, rfl, run_l tabOk ?_⟩
      conv => whnf
      (repeat' (first | ((first | refine wl_add rfl rfl rfl rfl rfl rfl (by omega) (by omega) (run_l tabOk ?_) | refine wl_sub rfl rfl rfl rfl rfl rfl (by omega) (by omega) (run_l tabOk ?_) | refine gs_dt (by first | assumption | omega) ?_ | refine gs_df (by first | assumption | omega) ?_ | refine gs_t (by assumption) ?_ | refine gs_f (by assumption) ?_ | refine gs_d (fun hg => ?_) (fun hg => ?_) | refine gs_n (fun hg => ?_) (fun hg => ?_) | refine gs_nb (fun hg => ?_) (fun hg => ?_) | refine gs_b (fun hg => ?_) (fun hg => ?_)) <;> conv => whnf) | refine fin1 rfl rfl ?_))
      exact ⟨rfl, hO1.mono⟩
    | false =>
      have hc : 1 < W.length ∨ 1 < S.length ∨ (W.length = 1 ∧ S.length = 1) := hc.resolve_left (by simp)
      conv => whnf
      by_cases h1 : 1 < W.length
      · (repeat' (first | (refine wl_lenM (hS.len setTy) rfl rfl rfl rfl rfl rfl rfl rfl (run_l tabOk ?_); (conv => whnf)) | (refine wl_lenM (hW.len setTy) rfl rfl rfl rfl rfl rfl rfl rfl (run_l tabOk ?_); (conv => whnf)) | ((first | refine wl_add rfl rfl rfl rfl rfl rfl (by omega) (by omega) (run_l tabOk ?_) | refine wl_sub rfl rfl rfl rfl rfl rfl (by omega) (by omega) (run_l tabOk ?_) | refine gs_dt (by first | assumption | omega) ?_ | refine gs_df (by first | assumption | omega) ?_ | refine gs_t (by assumption) ?_ | refine gs_f (by assumption) ?_ | refine gs_d (fun hg => ?_) (fun hg => ?_) | refine gs_n (fun hg => ?_) (fun hg => ?_) | refine gs_nb (fun hg => ?_) (fun hg => ?_) | refine gs_b (fun hg => ?_) (fun hg => ?_)) <;> conv => whnf) | refine fin1 rfl rfl ?_))
        refine wl_CF fn42 (first := []) (args := []) (caps := [.pointer (some ⟨gn, 0, none⟩)]) (hfr w hid) rfl rfl rfl rfl rfl rfl rfl ?_
        rintro _ w1 ⟨rfl, hO1⟩
        refine ⟨_, rfl, run_l tabOk ?_⟩
        conv => whnf
        (repeat' (first | ((first | refine wl_add rfl rfl rfl rfl rfl rfl (by omega) (by omega) (run_l tabOk ?_) | refine wl_sub rfl rfl rfl rfl rfl rfl (by omega) (by omega) (run_l tabOk ?_) | refine gs_dt (by first | assumption | omega) ?_ | refine gs_df (by first | assumption | omega) ?_ | refine gs_t (by assumption) ?_ | refine gs_f (by assumption) ?_ | refine gs_d (fun hg => ?_) (fun hg => ?_) | refine gs_n (fun hg => ?_) (fun hg => ?_) | refine gs_nb (fun hg => ?_) (fun hg => ?_) | refine gs_b (fun hg => ?_) (fun hg => ?_)) <;> conv => whnf) | refine fin1 rfl rfl ?_))
        exact ⟨rfl, hO1.mono⟩
      by_cases h2 : 1 < S.length
      · (repeat' (first | (refine wl_lenM (hS.len setTy) rfl rfl rfl rfl rfl rfl rfl rfl (run_l tabOk ?_); (conv => whnf)) | (refine wl_lenM (hW.len setTy) rfl rfl rfl rfl rfl rfl rfl rfl (run_l tabOk ?_); (conv => whnf)) | ((first | refine wl_add rfl rfl rfl rfl rfl rfl (by omega) (by omega) (run_l tabOk ?_) | refine wl_sub rfl rfl rfl rfl rfl rfl (by omega) (by omega) (run_l tabOk ?_) | refine gs_dt (by first | assumption | omega) ?_ | refine gs_df (by first | assumption | omega) ?_ | refine gs_t (by assumption) ?_ | refine gs_f (by assumption) ?_ | refine gs_d (fun hg => ?_) (fun hg => ?_) | refine gs_n (fun hg => ?_) (fun hg => ?_) | refine gs_nb (fun hg => ?_) (fun hg => ?_) | refine gs_b (fun hg => ?_) (fun hg => ?_)) <;> conv => whnf) | refine fin1 rfl rfl ?_))
        refine wl_CF fn42 (first := []) (args := []) (caps := [.pointer (some ⟨gn, 0, none⟩)]) (hfr w hid) rfl rfl rfl rfl rfl rfl rfl ?_
        rintro _ w1 ⟨rfl, hO1⟩
        refine ⟨_, rfl, run_l tabOk ?_⟩
        conv => whnf
        (repeat' (first | ((first | refine wl_add rfl rfl rfl rfl rfl rfl (by omega) (by omega) (run_l tabOk ?_) | refine wl_sub rfl rfl rfl rfl rfl rfl (by omega) (by omega) (run_l tabOk ?_) | refine gs_dt (by first | assumption | omega) ?_ | refine gs_df (by first | assumption | omega) ?_ | refine gs_t (by assumption) ?_ | refine gs_f (by assumption) ?_ | refine gs_d (fun hg => ?_) (fun hg => ?_) | refine gs_n (fun hg => ?_) (fun hg => ?_) | refine gs_nb (fun hg => ?_) (fun hg => ?_) | refine gs_b (fun hg => ?_) (fun hg => ?_)) <;> conv => whnf) | refine fin1 rfl rfl ?_))
        exact ⟨rfl, hO1.mono⟩
      have h3 : W.length = 1 ∧ S.length = 1 := by omega
      obtain ⟨h3, h4⟩ := h3
      (repeat' (first | (refine wl_lenM (hS.len setTy) rfl rfl rfl rfl rfl rfl rfl rfl (run_l tabOk ?_); (conv => whnf)) | (refine wl_lenM (hW.len setTy) rfl rfl rfl rfl rfl rfl rfl rfl (run_l tabOk ?_); (conv => whnf)) | ((first | refine wl_add rfl rfl rfl rfl rfl rfl (by omega) (by omega) (run_l tabOk ?_) | refine wl_sub rfl rfl rfl rfl rfl rfl (by omega) (by omega) (run_l tabOk ?_) | refine gs_dt (by first | assumption | omega) ?_ | refine gs_df (by first | assumption | omega) ?_ | refine gs_t (by assumption) ?_ | refine gs_f (by assumption) ?_ | refine gs_d (fun hg => ?_) (fun hg => ?_) | refine gs_n (fun hg => ?_) (fun hg => ?_) | refine gs_nb (fun hg => ?_) (fun hg => ?_) | refine gs_b (fun hg => ?_) (fun hg => ?_)) <;> conv => whnf) | refine fin1 rfl rfl ?_))
      refine wl_CF fn42 (first := []) (args := []) (caps := [.pointer (some ⟨gn, 0, none⟩)]) (hfr w hid) rfl rfl rfl rfl rfl rfl rfl ?_
      rintro _ w1 ⟨rfl, hO1⟩
      refine ⟨_, rfl, run_l tabOk ?_⟩
      conv => whnf
      (repeat' (first | ((first | refine wl_add rfl rfl rfl rfl rfl rfl (by omega) (by omega) (run_l tabOk ?_) | refine wl_sub rfl rfl rfl rfl rfl rfl (by omega) (by omega) (run_l tabOk ?_) | refine gs_dt (by first | assumption | omega) ?_ | refine gs_df (by first | assumption | omega) ?_ | refine gs_t (by assumption) ?_ | refine gs_f (by assumption) ?_ | refine gs_d (fun hg => ?_) (fun hg => ?_) | refine gs_n (fun hg => ?_) (fun hg => ?_) | refine gs_nb (fun hg => ?_) (fun hg => ?_) | refine gs_b (fun hg => ?_) (fun hg => ?_)) <;> conv => whnf) | refine fin1 rfl rfl ?_))
      exact ⟨rfl, hO1.mono⟩
  · have h0 : loose = false := by cases loose <;> simp_all
    have h1 : ¬ 1 < W.length := fun h => hc (.inr (.inl h))
    have h2 : ¬ 1 < S.length := fun h => hc (.inr (.inr (.inl h)))
    have h3 : ¬ (W.length = 1 ∧ S.length = 1) := fun h => hc (.inr (.inr (.inr h)))
    have hlF : labelF S W loose f m = labelO S W f m := if_neg hc
    rw [hlF]
    clear hlF hc
    subst h0
    have hmore : ∀ w', Below w.heap.size w w' → OL w w' gn bo m f (no + 1) := fun w' hb => ⟨blk_up hb hg, hid.obj.up hb, Kept.of hb⟩
    cases S with
    | cons x r =>
      cases r with
      | cons y r => exact absurd (by simp) h2
      | nil =>
        obtain ⟨w1, hr1, hB1, hnx⟩ := hS.only setTy
        conv => whnf
        have hW0 : W.length = 0 := by simp at h3; omega
        (repeat' (first | (refine wl_lenM (hS.len setTy) rfl rfl rfl rfl rfl rfl rfl rfl (run_l tabOk ?_); (conv => whnf)) | (refine wl_lenM (hW.len setTy) rfl rfl rfl rfl rfl rfl rfl rfl (run_l tabOk ?_); (conv => whnf)) | ((first | refine wl_add rfl rfl rfl rfl rfl rfl (by omega) (by omega) (run_l tabOk ?_) | refine wl_sub rfl rfl rfl rfl rfl rfl (by omega) (by omega) (run_l tabOk ?_) | refine gs_dt (by first | assumption | omega) ?_ | refine gs_df (by first | assumption | omega) ?_ | refine gs_t (by assumption) ?_ | refine gs_f (by assumption) ?_ | refine gs_d (fun hg => ?_) (fun hg => ?_) | refine gs_n (fun hg => ?_) (fun hg => ?_) | refine gs_nb (fun hg => ?_) (fun hg => ?_) | refine gs_b (fun hg => ?_) (fun hg => ?_)) <;> conv => whnf) | refine fin1 rfl rfl ?_))
        refine wl_rngM hr1 rfl rfl rfl rfl rfl ?_
        refine run_l tabOk ?_
        conv => whnf
        refine lp_loop tabOk (X := Unit) (fun _ => [(44, .pointer (some ⟨w.heap.size, 0, none⟩))]) (fun _ wr => wr = w1) (fun _ => 0) () ⟨rfl, trivial⟩ rfl ?_
        rintro _ G wr rfl
        conv => whnf
        obtain ⟨w2, v, hr2, hB2, hen⟩ := hnx _
        refine wl_nxM hr2 rfl rfl rfl rfl rfl ?_
        refine run_l tabOk ?_
        conv => whnf
        refine wl_enM hen rfl rfl rfl rfl rfl ?_
        refine run_l tabOk ?_
        conv => whnf
        (repeat' (first | ((first | refine wl_add rfl rfl rfl rfl rfl rfl (by omega) (by omega) (run_l tabOk ?_) | refine wl_sub rfl rfl rfl rfl rfl rfl (by omega) (by omega) (run_l tabOk ?_) | refine gs_dt (by first | assumption | omega) ?_ | refine gs_df (by first | assumption | omega) ?_ | refine gs_t (by assumption) ?_ | refine gs_f (by assumption) ?_ | refine gs_d (fun hg => ?_) (fun hg => ?_) | refine gs_n (fun hg => ?_) (fun hg => ?_) | refine gs_nb (fun hg => ?_) (fun hg => ?_) | refine gs_b (fun hg => ?_) (fun hg => ?_)) <;> conv => whnf) | refine fin1 rfl rfl ?_))
        exact ⟨rfl, (hmore _ hB2).mono⟩
    | nil =>
      cases W with
      | nil =>
        conv => whnf
        (repeat' (first | (refine wl_lenM (hS.len setTy) rfl rfl rfl rfl rfl rfl rfl rfl (run_l tabOk ?_); (conv => whnf)) | (refine wl_lenM (hW.len setTy) rfl rfl rfl rfl rfl rfl rfl rfl (run_l tabOk ?_); (conv => whnf)) | ((first | refine wl_add rfl rfl rfl rfl rfl rfl (by omega) (by omega) (run_l tabOk ?_) | refine wl_sub rfl rfl rfl rfl rfl rfl (by omega) (by omega) (run_l tabOk ?_) | refine gs_dt (by first | assumption | omega) ?_ | refine gs_df (by first | assumption | omega) ?_ | refine gs_t (by assumption) ?_ | refine gs_f (by assumption) ?_ | refine gs_d (fun hg => ?_) (fun hg => ?_) | refine gs_n (fun hg => ?_) (fun hg => ?_) | refine gs_nb (fun hg => ?_) (fun hg => ?_) | refine gs_b (fun hg => ?_) (fun hg => ?_)) <;> conv => whnf) | refine fin1 rfl rfl ?_))
        exact ⟨rfl, hid.mono⟩
      | cons o r =>
        cases r with
        | cons y r => exact absurd (by simp) h1
        | nil =>
          have hoi := hWi o (by simp)
          obtain ⟨w1, hr1, hB1, hnx⟩ := hW.only setTy
          conv => whnf
          (repeat' (first | (refine wl_lenM (hS.len setTy) rfl rfl rfl rfl rfl rfl rfl rfl (run_l tabOk ?_); (conv => whnf)) | (refine wl_lenM (hW.len setTy) rfl rfl rfl rfl rfl rfl rfl rfl (run_l tabOk ?_); (conv => whnf)) | ((first | refine wl_add rfl rfl rfl rfl rfl rfl (by omega) (by omega) (run_l tabOk ?_) | refine wl_sub rfl rfl rfl rfl rfl rfl (by omega) (by omega) (run_l tabOk ?_) | refine gs_dt (by first | assumption | omega) ?_ | refine gs_df (by first | assumption | omega) ?_ | refine gs_t (by assumption) ?_ | refine gs_f (by assumption) ?_ | refine gs_d (fun hg => ?_) (fun hg => ?_) | refine gs_n (fun hg => ?_) (fun hg => ?_) | refine gs_nb (fun hg => ?_) (fun hg => ?_) | refine gs_b (fun hg => ?_) (fun hg => ?_)) <;> conv => whnf) | refine fin1 rfl rfl ?_))
          refine wl_rngM hr1 rfl rfl rfl rfl rfl ?_
          refine run_l tabOk ?_
          conv => whnf
          refine lp_loop tabOk (X := Unit) (fun _ => [(3, .map (some bo)), (4, freshV gn), (55, .pointer (some ⟨w.heap.size, 0, none⟩))]) (fun _ wr => wr = w1) (fun _ => 0) () ⟨rfl, rfl, rfl, trivial⟩ rfl ?_
          rintro _ G wr rfl
          conv => whnf
          obtain ⟨w2, v, hr2, hB2, hen⟩ := hnx _
          have hO2 := hmore w2 hB2
          obtain ⟨vl, hlk, hvl⟩ := hO2.obj.look numTy (zeroI w2) hoi
          refine wl_nxM hr2 rfl rfl rfl rfl rfl ?_
          refine run_l tabOk ?_
          conv => whnf
          refine wl_enM hen rfl rfl rfl rfl rfl ?_
          refine run_l tabOk ?_
          conv => whnf
          refine wl_lkM hlk rfl rfl rfl rfl rfl rfl ?_
          refine run_l tabOk ?_
          conv => whnf
          cases hf : f o with
          | some q =>
            rw [hf] at hvl
            have hlo : labelO [] [o] f m = ((q : Int), m, f) := by unfold labelO; simp [hf]
            rw [hlo, hvl q rfl]
            conv => whnf
            (repeat' (first | ((first | refine wl_add rfl rfl rfl rfl rfl rfl (by omega) (by omega) (run_l tabOk ?_) | refine wl_sub rfl rfl rfl rfl rfl rfl (by omega) (by omega) (run_l tabOk ?_) | refine gs_dt (by first | assumption | omega) ?_ | refine gs_df (by first | assumption | omega) ?_ | refine gs_t (by assumption) ?_ | refine gs_f (by assumption) ?_ | refine gs_d (fun hg => ?_) (fun hg => ?_) | refine gs_n (fun hg => ?_) (fun hg => ?_) | refine gs_nb (fun hg => ?_) (fun hg => ?_) | refine gs_b (fun hg => ?_) (fun hg => ?_)) <;> conv => whnf) | refine fin1 rfl rfl ?_))
            exact ⟨rfl, hO2.mono⟩
          | none =>
            have hlo : labelO [] [o] f m = ((m : Int), m + 1, putN f o m) := by unfold labelO; simp [hf]
            rw [hlo]
            conv => whnf
            refine wl_CF fn42 (first := []) (args := []) (caps := [.pointer (some ⟨gn, 0, none⟩)]) (hfr w2 hO2) rfl rfl rfl rfl rfl rfl rfl ?_
            rintro _ w3 ⟨rfl, hO3⟩
            refine ⟨_, rfl, run_l tabOk ?_⟩
            conv => whnf
            refine wl_mu (hO3.obj.put numTy (x := o) (m := m) (by unfold maxLen; omega) hoi ⟨by omega, by omega⟩) rfl rfl rfl rfl rfl rfl ?_
            rintro w4 ⟨hN4, hg4⟩
            refine run_l tabOk ?_
            conv => whnf
            (repeat' (first | ((first | refine wl_add rfl rfl rfl rfl rfl rfl (by omega) (by omega) (run_l tabOk ?_) | refine wl_sub rfl rfl rfl rfl rfl rfl (by omega) (by omega) (run_l tabOk ?_) | refine gs_dt (by first | assumption | omega) ?_ | refine gs_df (by first | assumption | omega) ?_ | refine gs_t (by assumption) ?_ | refine gs_f (by assumption) ?_ | refine gs_d (fun hg => ?_) (fun hg => ?_) | refine gs_n (fun hg => ?_) (fun hg => ?_) | refine gs_nb (fun hg => ?_) (fun hg => ?_) | refine gs_b (fun hg => ?_) (fun hg => ?_)) <;> conv => whnf) | refine fin1 rfl rfl ?_))
            exact ⟨rfl, ⟨(hg4.block gn (blk_lt hO3.cell) (by intro e; injection e with e; exact hne e.symm)).trans hO3.cell, hN4, Kept.grown hO3.kept hg4 (fun g e => .inl (by injection e with e; simp [e]))⟩⟩
end Go.Proofs.Ytjggjhgbobmkhaa

/- Labels, in plain words. -/
namespace Go.Proofs.Ytjggjhgbobmkhaa
set_option linter.unusedVariables false
set_option linter.unusedSimpArgs false
/-- What comes into a knot: other knots' labels, its own objects, and whether it is loose. -/
def seenX (of : Nat → Nat) (lab : Nat → Int) (k : Nat) (S : List Int) (x : Int) : List Int := if of x.toNat ≠ k ∧ lab (of x.toNat) ≠ -1 then addI S (lab (of x.toNat)) else S
def seenV (into : List (List Int)) (of : Nat → Nat) (lab : Nat → Int) (k : Nat) (S : List Int) (v : Nat) : List Int := (into[v]!).foldl (seenX of lab k) S
def ownV (bases : List (List Int)) (vars : Nat) (W : List Int) (v : Nat) : List Int := if v < vars then (bases[v]!).foldl addI W else W
def looV (lo : List Bool) (b : Bool) (v : Nat) : Bool := b || lo[v]!
structure LabS where
  lab : Nat → Int
  nx : Nat
  ob : Int → Option Nat
section
variable (vars : Nat) (into bases : List (List Int)) (lo : List Bool) (kn : List (List Nat)) (of : Nat → Nat)
def seenK (lab : Nat → Int) (k : Nat) : List Int := (kn[k]!).foldl (seenV into of lab k) []
def ownK (k : Nat) : List Int := (kn[k]!).foldl (ownV bases vars) []
def looK (k : Nat) : Bool := (kn[k]!).foldl (looV lo) false
def labR (s : LabS) (k : Nat) : Int × Nat × (Int → Option Nat) := labelF (seenK into kn of s.lab k) (ownK vars bases kn k) (looK lo kn k) s.ob s.nx
def labN : Nat → LabS
  | 0 => ⟨fun _ => 0, 0, fun _ => none⟩
  | k + 1 => let s := labN k; let r := labR vars into bases lo kn of s k; ⟨setF s.lab k r.1, r.2.1, r.2.2⟩
end
/-- What holds of labels: they are below the next number. -/
structure LOk (k : Nat) (s : LabS) : Prop where
  lab : ∀ j, j < k → -1 ≤ s.lab j ∧ s.lab j < s.nx
  ob : ∀ x m, s.ob x = some m → m < s.nx
  nx : s.nx ≤ k
theorem addI_nodup {L : List Int} (h : L.Nodup) (x : Int) : (addI L x).Nodup := by
  unfold addI
  split
  · exact h
  · rename_i hx
    rw [List.nodup_append]
    exact ⟨h, by simp, fun a ha c hc e => by simp at hc; subst hc; exact hx (e ▸ ha)⟩
theorem addI_all {p : Int → Prop} {L : List Int} {x : Int} (h : ∀ y ∈ L, p y) (hx : p x) : ∀ y ∈ addI L x, p y := fun y hy => by
  rcases addI_mem.1 hy with h1 | rfl
  · exact h y h1
  · exact hx
theorem nodupI_len {L : List Int} {b : Nat} (h : L.Nodup) (hb : ∀ x ∈ L, 0 ≤ x ∧ x < (b : Int)) : L.length ≤ b := by
  have := nodup_lenK (n := b) (l := L.map Int.toNat) (by
    rw [List.nodup_iff_pairwise_ne, List.pairwise_map]
    rw [List.nodup_iff_pairwise_ne] at h
    exact h.imp_of_mem fun {x y} hx hy hne e => hne (by have := hb x hx; have := hb y hy; omega)) (fun v hv => by
    obtain ⟨x, hx, rfl⟩ := List.mem_map.1 hv
    have := hb x hx
    omega)
  simpa using this
theorem fold_inv {α β : Type} {p : α → Prop} {f : α → β → α} (l : List β) (a : α) (ha : p a) (hf : ∀ a b, b ∈ l → p a → p (f a b)) : p (l.foldl f a) := by
  induction l generalizing a with
  | nil => exact ha
  | cons b r ih => exact ih (f a b) (hf a b (by simp) ha) fun a c hc hp => hf a c (by simp [hc]) hp
/-- Own objects: in their range. -/
def OwnP (W : List Int) : Prop := W.Nodup ∧ ∀ x ∈ W, 0 ≤ x ∧ x < 16384
theorem ownV_ok {vars : Nat} {bases : List (List Int)} {W : List Int} {v : Nat} (hb : ∀ v, v < vars → ∀ x ∈ bases[v]!, 0 ≤ x ∧ x < 16384) (h : OwnP W) : OwnP (ownV bases vars W v) := by
  unfold ownV
  split
  · rename_i hv
    exact fold_inv _ _ h fun W x hx hW => ⟨addI_nodup hW.1 x, addI_all hW.2 (hb v hv x hx)⟩
  · exact h
def SeenP (m : Nat) (S : List Int) : Prop := S.Nodup ∧ ∀ x ∈ S, 0 ≤ x ∧ x < (m : Int)
theorem seenX_ok {of : Nat → Nat} {lab : Nat → Int} {k m : Nat} {S : List Int} {x : Int} (hl : ∀ j, j < k → -1 ≤ lab j ∧ lab j < m) (ho : of x.toNat ≤ k) (h : SeenP m S) : SeenP m (seenX of lab k S x) := by
  unfold seenX
  split
  · rename_i hc
    have := hl _ (Nat.lt_of_le_of_ne ho hc.1)
    exact ⟨addI_nodup h.1 _, addI_all h.2 ⟨by omega, by omega⟩⟩
  · exact h
theorem seenV_ok {into : List (List Int)} {of : Nat → Nat} {lab : Nat → Int} {k m : Nat} {S : List Int} {v : Nat} (hl : ∀ j, j < k → -1 ≤ lab j ∧ lab j < m) (ho : ∀ x ∈ into[v]!, of x.toNat ≤ k) (h : SeenP m S) : SeenP m (seenV into of lab k S v) :=
  fold_inv _ _ h fun S x hx hS => seenX_ok hl (ho x hx) hS
theorem labelF_ok {S W : List Int} {b : Bool} {f : Int → Option Nat} {m : Nat} (hS : ∀ x ∈ S, 0 ≤ x ∧ x < (m : Int)) (hf : ∀ x q, f x = some q → q < m) :
    (-1 ≤ (labelF S W b f m).1 ∧ (labelF S W b f m).1 < ((labelF S W b f m).2.1 : Int)) ∧ (m ≤ (labelF S W b f m).2.1 ∧ (labelF S W b f m).2.1 ≤ m + 1) ∧ ∀ x q, (labelF S W b f m).2.2 x = some q → q < (labelF S W b f m).2.1 := by
  unfold labelF
  split
  · refine ⟨⟨?_, ?_⟩, ⟨?_, ?_⟩, ?_⟩
    · simp only; omega
    · simp only; omega
    · simp only; omega
    · simp only; omega
    · intro x q h
      have := hf x q h
      simp only; omega
  · cases S with
    | cons x r =>
      have := hS x (by simp)
      refine ⟨⟨?_, ?_⟩, ⟨?_, ?_⟩, fun x q h => hf x q h⟩ <;> simp only [labelO] <;> omega
    | nil =>
      cases W with
      | nil => refine ⟨⟨?_, ?_⟩, ⟨?_, ?_⟩, fun x q h => hf x q h⟩ <;> simp only [labelO] <;> omega
      | cons o r =>
        cases hq : f o with
        | some q =>
          have := hf o q hq
          have e : labelO [] (o :: r) f m = ((q : Int), m, f) := by simp only [labelO, hq]
          rw [e]
          refine ⟨⟨?_, ?_⟩, ⟨?_, ?_⟩, fun x q h => hf x q h⟩ <;> simp only <;> omega
        | none =>
          have e : labelO [] (o :: r) f m = ((m : Int), m + 1, putN f o m) := by simp only [labelO, hq]
          rw [e]
          refine ⟨⟨?_, ?_⟩, ⟨?_, ?_⟩, fun x q h => ?_⟩
          · simp only; omega
          · simp only; omega
          · simp only; omega
          · simp only; omega
          · simp only at h ⊢
            unfold putN at h
            split at h
            · injection h with h; omega
            · have := hf x q h; omega
section
variable {vars : Nat} {into bases : List (List Int)} {lo : List Bool} {kn : List (List Nat)} {of : Nat → Nat}
theorem seenK_ok (hG : GOk vars into bases lo) (hK : KnOk into kn of) {s : LabS} {k : Nat} (hk : k < kn.length) (h : LOk k s) : SeenP s.nx (seenK into kn of s.lab k) :=
  fold_inv _ _ ⟨.nil, by simp⟩ fun S v hv hS => seenV_ok h.lab (hK.down hG.ri hk hv).2 hS
theorem labN_ok (hG : GOk vars into bases lo) (hK : KnOk into kn of) : ∀ k, k ≤ kn.length → LOk k (labN vars into bases lo kn of k)
  | 0, _ => ⟨fun j hj => absurd hj (Nat.not_lt_zero j), fun x m h => by (cases h), Nat.le_refl _⟩
  | k + 1, hk => by
    have ih := labN_ok hG hK k (by omega)
    have h1 := seenK_ok hG hK (by omega : k < kn.length) ih
    obtain ⟨h2, h3, h4⟩ := labelF_ok (W := ownK vars bases kn k) (b := looK lo kn k) h1.2 ih.ob
    refine ⟨fun j hj => ?_, h4, ?_⟩
    · show -1 ≤ setF _ k _ j ∧ setF _ k _ j < _
      by_cases e : j = k
      · subst e
        rw [setF_at]
        exact h2
      · rw [setF_ne _ _ e]
        have := ih.lab j (by omega)
        have h5 : (labN vars into bases lo kn of k).nx ≤ (labN vars into bases lo kn of (k + 1)).nx := h3.1
        omega
    · have h5 : (labN vars into bases lo kn of (k + 1)).nx ≤ (labN vars into bases lo kn of k).nx + 1 := h3.2
      have := ih.nx
      omega
end
end Go.Proofs.Ytjggjhgbobmkhaa

/- What is true of labels: plain. -/
namespace Go.Proofs.Ytjggjhgbobmkhaa
set_option linter.unusedVariables false
set_option linter.unusedSimpArgs false
section
variable {vars : Nat} {into bases : List (List Int)} {lo : List Bool} {kn : List (List Nat)} {of : Nat → Nat}
/-- The labels at the end. -/
def Lf (vars : Nat) (into bases : List (List Int)) (lo : List Bool) (kn : List (List Nat)) (of : Nat → Nat) : Nat → Int := (labN vars into bases lo kn of kn.length).lab
theorem lab_keep {j k : Nat} (hj : j < k) : ∀ d, (labN vars into bases lo kn of (k + d)).lab j = (labN vars into bases lo kn of k).lab j
  | 0 => rfl
  | d + 1 => by
    have ih := lab_keep hj d
    refine Eq.trans ?_ ih
    show setF (labN vars into bases lo kn of (k + d)).lab (k + d) _ j = _
    exact setF_ne _ _ (by omega)
theorem lab_fin {j k : Nat} (hj : j < k) (hk : k ≤ kn.length) : (labN vars into bases lo kn of k).lab j = Lf vars into bases lo kn of j := by
  obtain ⟨d, hd⟩ : ∃ d, kn.length = k + d := ⟨kn.length - k, by omega⟩
  unfold Lf
  rw [hd]
  exact (lab_keep hj d).symm
theorem Lf_eq {k : Nat} (hk : k < kn.length) : Lf vars into bases lo kn of k = (labR vars into bases lo kn of (labN vars into bases lo kn of k) k).1 := by
  rw [← lab_fin (Nat.lt_succ_self k) hk]
  show setF _ k _ k = _
  rw [setF_at]
theorem mem_fold_addI : ∀ (l : List Int) (S : List Int) (y : Int), y ∈ l.foldl addI S ↔ y ∈ S ∨ y ∈ l
  | [], S, y => by simp
  | x :: l, S, y => by
    rw [List.foldl_cons, mem_fold_addI l, addI_mem, List.mem_cons]
    exact or_assoc
theorem mem_seenV {lab : Nat → Int} {k v : Nat} : ∀ (l : List Int) (S : List Int) (y : Int), y ∈ l.foldl (seenX of lab k) S ↔ y ∈ S ∨ ∃ x ∈ l, of x.toNat ≠ k ∧ lab (of x.toNat) ≠ -1 ∧ y = lab (of x.toNat)
  | [], S, y => by simp
  | x :: l, S, y => by
    rw [List.foldl_cons, mem_seenV (v := v) l]
    unfold seenX
    by_cases hc : of x.toNat ≠ k ∧ lab (of x.toNat) ≠ -1
    · rw [if_pos hc, addI_mem]
      constructor
      · rintro ((h | h) | ⟨z, hz, h⟩)
        · exact .inl h
        · exact .inr ⟨x, by simp, hc.1, hc.2, h⟩
        · exact .inr ⟨z, by simp [hz], h⟩
      · rintro (h | ⟨z, hz, h⟩)
        · exact .inl (.inl h)
        · rcases List.mem_cons.1 hz with rfl | hz
          · exact .inl (.inr h.2.2)
          · exact .inr ⟨z, hz, h⟩
    · rw [if_neg hc]
      constructor
      · rintro (h | ⟨z, hz, h⟩)
        · exact .inl h
        · exact .inr ⟨z, by simp [hz], h⟩
      · rintro (h | ⟨z, hz, h⟩)
        · exact .inl h
        · rcases List.mem_cons.1 hz with rfl | hz
          · exact absurd ⟨h.1, h.2.1⟩ hc
          · exact .inr ⟨z, hz, h⟩
theorem mem_foldV {α : Type} {f : List Int → α → List Int} {p : α → Int → Prop} (hf : ∀ S v y, y ∈ f S v ↔ y ∈ S ∨ p v y) : ∀ (l : List α) (S : List Int) (y : Int), y ∈ l.foldl f S ↔ y ∈ S ∨ ∃ v ∈ l, p v y
  | [], S, y => by simp
  | v :: l, S, y => by
    rw [List.foldl_cons, mem_foldV hf l, hf]
    constructor
    · rintro ((h | h) | ⟨z, hz, h⟩)
      · exact .inl h
      · exact .inr ⟨v, by simp, h⟩
      · exact .inr ⟨z, by simp [hz], h⟩
    · rintro (h | ⟨z, hz, h⟩)
      · exact .inl (.inl h)
      · rcases List.mem_cons.1 hz with rfl | hz
        · exact .inl (.inr h)
        · exact .inr ⟨z, hz, h⟩
theorem mem_seenK {lab : Nat → Int} {k : Nat} {y : Int} : y ∈ seenK into kn of lab k ↔ ∃ v ∈ kn[k]!, ∃ x ∈ into[v]!, of x.toNat ≠ k ∧ lab (of x.toNat) ≠ -1 ∧ y = lab (of x.toNat) := by
  unfold seenK
  rw [mem_foldV (p := fun v y => ∃ x ∈ into[v]!, of x.toNat ≠ k ∧ lab (of x.toNat) ≠ -1 ∧ y = lab (of x.toNat)) (f := seenV into of lab k) (fun S v y => mem_seenV (v := v) into[v]! S y)]
  simp
theorem mem_ownK {k : Nat} {y : Int} : y ∈ ownK vars bases kn k ↔ ∃ v ∈ kn[k]!, v < vars ∧ y ∈ bases[v]! := by
  unfold ownK
  rw [mem_foldV (p := fun v y => v < vars ∧ y ∈ bases[v]!) (f := ownV bases vars) (fun S v y => by
    unfold ownV
    split
    · rename_i h
      rw [mem_fold_addI]
      simp [h]
    · rename_i h
      simp [h])]
  simp
theorem looK_iff {k : Nat} : looK lo kn k = true ↔ ∃ v ∈ kn[k]!, lo[v]! = true := by
  have key : ∀ (l : List Nat) (b : Bool), l.foldl (looV lo) b = true ↔ b = true ∨ ∃ v ∈ l, lo[v]! = true := by
    intro l
    induction l with
    | nil => intro b; simp
    | cons v l ih =>
      intro b
      rw [List.foldl_cons, ih]
      unfold looV
      rw [Bool.or_eq_true]
      constructor
      · rintro ((h | h) | ⟨z, hz, h⟩)
        · exact .inl h
        · exact .inr ⟨v, by simp, h⟩
        · exact .inr ⟨z, by simp [hz], h⟩
      · rintro (h | ⟨z, hz, h⟩)
        · exact .inl (.inl h)
        · rcases List.mem_cons.1 hz with rfl | hz
          · exact .inl (.inr h)
          · exact .inr ⟨z, hz, h⟩
  unfold looK
  rw [key]
  simp
theorem nil_of_no {S : List Int} (h : ∀ y, y ∉ S) : S = [] := List.eq_nil_iff_forall_not_mem.2 h
/-! ### one node alone -/
theorem nx_mono {k : Nat} (hG : GOk vars into bases lo) (hK : KnOk into kn of) : ∀ d, k + d ≤ kn.length → (labN vars into bases lo kn of k).nx ≤ (labN vars into bases lo kn of (k + d)).nx
  | 0, _ => Nat.le_refl _
  | d + 1, h => by
    have ih := nx_mono (k := k) hG hK d (by omega)
    have hLO := labN_ok hG hK (k + d) (by omega)
    have h1 := seenK_ok hG hK (by omega : k + d < kn.length) hLO
    have h2 : (labN vars into bases lo kn of (k + d)).nx ≤ (labN vars into bases lo kn of (k + d + 1)).nx := (labelF_ok (W := ownK vars bases kn (k + d)) (b := looK lo kn (k + d)) h1.2 hLO.ob).2.1.1
    exact Nat.le_trans ih h2
theorem labelF_ob {S W : List Int} {b : Bool} {f : Int → Option Nat} {m : Nat} (o : Int) : (labelF S W b f m).2.2 o = f o ∨ (f o = none ∧ (labelF S W b f m).2.2 o = some m ∧ (labelF S W b f m).2.1 = m + 1) := by
  unfold labelF
  split
  · exact .inl rfl
  · cases S with
    | cons x r => exact .inl rfl
    | nil =>
      cases W with
      | nil => exact .inl rfl
      | cons a r =>
        cases hq : f a with
        | some q =>
          have e : labelO [] (a :: r) f m = ((q : Int), m, f) := by simp only [labelO, hq]
          rw [e]
          exact .inl rfl
        | none =>
          have e : labelO [] (a :: r) f m = ((m : Int), m + 1, putN f a m) := by simp only [labelO, hq]
          rw [e]
          by_cases e2 : o = a
          · subst e2
            exact .inr ⟨hq, by simp [putN], rfl⟩
          · exact .inl (by simp [putN, e2])
theorem ob_keep {k : Nat} {o : Int} {q : Nat} (h : (labN vars into bases lo kn of k).ob o = some q) : ∀ d, (labN vars into bases lo kn of (k + d)).ob o = some q
  | 0 => h
  | d + 1 => by
    have ih := ob_keep h d
    rcases labelF_ob (S := seenK into kn of (labN vars into bases lo kn of (k + d)).lab (k + d)) (W := ownK vars bases kn (k + d)) (b := looK lo kn (k + d)) (f := (labN vars into bases lo kn of (k + d)).ob) (m := (labN vars into bases lo kn of (k + d)).nx) o with h1 | ⟨h1, _⟩
    · exact h1.trans ih
    · rw [ih] at h1
      cases h1
/-- What comes later is not less than the number of now. -/
theorem ob_late (hG : GOk vars into bases lo) (hK : KnOk into kn of) {k : Nat} {o : Int} {q : Nat} (h0 : (labN vars into bases lo kn of k).ob o = none) : ∀ d, k + d ≤ kn.length → (labN vars into bases lo kn of (k + d)).ob o = some q → (labN vars into bases lo kn of k).nx ≤ q
  | 0, _, h => by
    have h : (labN vars into bases lo kn of k).ob o = some q := h
    rw [h0] at h
    cases h
  | d + 1, hd, h => by
    rcases labelF_ob (S := seenK into kn of (labN vars into bases lo kn of (k + d)).lab (k + d)) (W := ownK vars bases kn (k + d)) (b := looK lo kn (k + d)) (f := (labN vars into bases lo kn of (k + d)).ob) (m := (labN vars into bases lo kn of (k + d)).nx) o with h1 | ⟨_, h1, _⟩
    · exact ob_late hG hK h0 d (by omega) (h1.symm.trans h)
    · have h2 : some (labN vars into bases lo kn of (k + d)).nx = some q := h1.symm.trans h
      injection h2 with h2
      have := nx_mono (k := k) hG hK d (by omega)
      omega
/-- Objects' numbers are different ones. -/
theorem ob_inj (hG : GOk vars into bases lo) (hK : KnOk into kn of) : ∀ k, k ≤ kn.length → ∀ o p q, (labN vars into bases lo kn of k).ob o = some q → (labN vars into bases lo kn of k).ob p = some q → o = p
  | 0, _, o, p, q, h, _ => by cases h
  | k + 1, hk, o, p, q, ho, hp => by
    have hLO := labN_ok hG hK k (by omega)
    have key : ∀ x, (labN vars into bases lo kn of (k + 1)).ob x = some q → (labN vars into bases lo kn of k).ob x = some q ∨ ((labN vars into bases lo kn of k).ob x = none ∧ q = (labN vars into bases lo kn of k).nx) := fun x hx => by
      rcases labelF_ob (S := seenK into kn of (labN vars into bases lo kn of k).lab k) (W := ownK vars bases kn k) (b := looK lo kn k) (f := (labN vars into bases lo kn of k).ob) (m := (labN vars into bases lo kn of k).nx) x with h1 | ⟨h0, h1, _⟩
      · exact .inl (h1.symm.trans hx)
      · have h2 : some (labN vars into bases lo kn of k).nx = some q := h1.symm.trans hx
        injection h2 with h2
        exact .inr ⟨h0, h2.symm⟩
    -- at most one is new
    have one : ∀ x, (labN vars into bases lo kn of k).ob x = none → (labN vars into bases lo kn of (k + 1)).ob x = some q → ownK vars bases kn k ≠ [] ∧ (ownK vars bases kn k)[0]! = x := fun x h0 hx => by
      have hx : (labelF (seenK into kn of (labN vars into bases lo kn of k).lab k) (ownK vars bases kn k) (looK lo kn k) (labN vars into bases lo kn of k).ob (labN vars into bases lo kn of k).nx).2.2 x = some q := hx
      unfold labelF at hx
      split at hx
      · simp only at hx; rw [h0] at hx; cases hx
      · generalize seenK into kn of (labN vars into bases lo kn of k).lab k = S at hx
        generalize ownK vars bases kn k = W at hx ⊢
        cases S with
        | cons y r => simp only [labelO] at hx; rw [h0] at hx; cases hx
        | nil =>
          cases W with
          | nil => simp only [labelO] at hx; rw [h0] at hx; cases hx
          | cons a r =>
            refine ⟨by simp, ?_⟩
            cases hq : (labN vars into bases lo kn of k).ob a with
            | some q2 => simp only [labelO, hq] at hx; rw [h0] at hx; cases hx
            | none =>
              simp only [labelO, hq] at hx
              unfold putN at hx
              by_cases e : x = a
              · exact e.symm
              · rw [if_neg e, h0] at hx; cases hx
    rcases key o ho with h1 | ⟨h1, e1⟩
    · rcases key p hp with h2 | ⟨h2, e2⟩
      · exact ob_inj hG hK k (by omega) o p q h1 h2
      · have := hLO.ob o q h1; omega
    · rcases key p hp with h2 | ⟨h2, e2⟩
      · have := hLO.ob p q h2; omega
      · rw [← (one o h1 ho).2, ← (one p h2 hp).2]
/-- A knot of one node. -/
structure One (into : List (List Int)) (kn : List (List Nat)) (of : Nat → Nat) (v : Nat) : Prop where
  lt : v < into.length
  kn : kn[of v]! = [v]
section
variable {v : Nat}
abbrev lv (vars : Nat) (into bases : List (List Int)) (lo : List Bool) (kn : List (List Nat)) (of : Nat → Nat) (v : Nat) : Int := Lf vars into bases lo kn of (of v)
theorem One.own (h : One into kn of v) (hv : v < vars) (y : Int) : y ∈ ownK vars bases kn (of v) ↔ y ∈ bases[v]! := by
  rw [mem_ownK, h.kn]
  simp [hv]
theorem One.loo (h : One into kn of v) : looK lo kn (of v) = lo[v]! := by
  have := looK_iff (lo := lo) (kn := kn) (k := of v)
  rw [h.kn] at this
  cases hb : looK lo kn (of v) with
  | true =>
    have := this.1 hb
    simpa using this
  | false =>
    cases hb2 : lo[v]! with
    | false => rfl
    | true => exact absurd (this.2 ⟨v, by simp, hb2⟩) (by rw [hb]; simp)
end
end
end Go.Proofs.Ytjggjhgbobmkhaa

/- Labels and sources: plain. -/
namespace Go.Proofs.Ytjggjhgbobmkhaa
set_option linter.unusedVariables false
set_option linter.unusedSimpArgs false
section
variable {vars nc : Nat} {into bases : List (List Int)} {lo : List Bool} {kn : List (List Nat)} {of : Nat → Nat}
/-- What labels tell of sources. -/
structure DOk (vars nc : Nat) (into bases : List (List Int)) (lo : List Bool) (kn : List (List Nat)) (k : Nat) (s : LabS) (D : Nat → Nat → Prop) : Prop where
  no : ∀ p, p < k → s.lab p = -1 → ∀ v ∈ kn[p]!, ∀ j, ¬ GS vars nc into bases lo v j
  pos : ∀ p, p < k → s.lab p ≠ -1 → ∀ v ∈ kn[p]!, ∃ j, GS vars nc into bases lo v j
  so : ∀ p m, p < k → s.lab p = ((m : Nat) : Int) → ∀ v ∈ kn[p]!, ∀ j, GS vars nc into bases lo v j ↔ D m j
  ob : ∀ o m, s.ob o = some m → ∀ j : Nat, D m j ↔ (j : Int) = o
theorem dok_next (hG : GOk vars into bases lo) (hK : KnOk into kn of) {k : Nat} (hk : k < kn.length) {D : Nat → Nat → Prop} (h : DOk vars nc into bases lo kn k (labN vars into bases lo kn of k) D) : ∃ D', DOk vars nc into bases lo kn (k + 1) (labN vars into bases lo kn of (k + 1)) D' := by
  have hLO := labN_ok hG hK k (Nat.le_of_lt hk)
  have hcase : labN vars into bases lo kn of (k + 1) = ⟨setF (labN vars into bases lo kn of k).lab k (labR vars into bases lo kn of (labN vars into bases lo kn of k) k).1, (labR vars into bases lo kn of (labN vars into bases lo kn of k) k).2.1, (labR vars into bases lo kn of (labN vars into bases lo kn of k) k).2.2⟩ := rfl
  rw [hcase]
  obtain ⟨s, hs⟩ : ∃ s, s = labN vars into bases lo kn of k := ⟨_, rfl⟩
  unfold labR
  have hS0 : ∀ y, y ∈ seenK into kn of s.lab k ↔ _ := fun y => mem_seenK
  have hSP := seenK_ok hG hK hk hLO
  have hW0 : ∀ y, y ∈ ownK vars bases kn k ↔ _ := fun y => mem_ownK
  have hL0 : looK lo kn k = true ↔ _ := looK_iff
  rw [← hs] at hLO h hSP ⊢
  have hgs : ∀ v ∈ kn[k]!, ∀ j, GS vars nc into bases lo v j ↔ (∃ w ∈ kn[k]!, lo[w]! = true ∧ j = nc + w) ∨ ((j : Int) ∈ ownK vars bases kn k) ∨ ∃ m : Nat, (m : Int) ∈ seenK into kn of s.lab k ∧ D m j := fun v hv j => by
    rw [GS_knot hG.ri hK hk hv, hW0]
    refine or_congr Iff.rfl (or_congr Iff.rfl ?_)
    constructor
    · rintro ⟨w, hw, x, hx, h1, h2⟩
      obtain ⟨hwl, hd⟩ := hK.down hG.ri hk hw
      have hle := Nat.lt_of_le_of_ne (hd x hx) h1
      have hxl : x.toNat < into.length := by have := hG.ri w hwl x hx; omega
      have hxm := (hK.at_ x.toNat hxl).2
      have hlb := hLO.lab _ hle
      by_cases hn : s.lab (of x.toNat) = -1
      · exact absurd h2 (h.no _ hle hn _ hxm j)
      · obtain ⟨m, hm⟩ := Int.eq_ofNat_of_zero_le (show 0 ≤ s.lab (of x.toNat) by omega)
        refine ⟨m, (hS0 _).2 ⟨w, hw, x, hx, h1, hn, hm.symm⟩, ?_⟩
        exact (h.so _ m hle hm _ hxm j).1 h2
    · rintro ⟨m, hm, hD⟩
      obtain ⟨w, hw, x, hx, h1, h2, h3⟩ := (hS0 _).1 hm
      obtain ⟨hwl, hd⟩ := hK.down hG.ri hk hw
      have hle := Nat.lt_of_le_of_ne (hd x hx) h1
      have hxl : x.toNat < into.length := by have := hG.ri w hwl x hx; omega
      exact ⟨w, hw, x, hx, h1, (h.so _ m hle h3.symm _ (hK.at_ x.toNat hxl).2 j).2 hD⟩
  have hne : ∀ y ∈ seenK into kn of s.lab k, ∃ m : Nat, y = (m : Int) ∧ m < s.nx ∧ ∃ j, D m j := fun y hy => by
    have hb := hSP.2 y hy
    obtain ⟨m, rfl⟩ := Int.eq_ofNat_of_zero_le hb.1
    refine ⟨m, rfl, by omega, ?_⟩
    obtain ⟨w, hw, x, hx, h1, h2, h3⟩ := (hS0 _).1 hy
    obtain ⟨hwl, hd⟩ := hK.down hG.ri hk hw
    have hle := Nat.lt_of_le_of_ne (hd x hx) h1
    have hxl : x.toNat < into.length := by have := hG.ri w hwl x hx; omega
    obtain ⟨j, hj⟩ := h.pos _ hle h2 _ (hK.at_ x.toNat hxl).2
    exact ⟨j, (h.so _ m hle h3.symm _ (hK.at_ x.toNat hxl).2 j).1 hj⟩
  have hWP : ∀ y ∈ ownK vars bases kn k, 0 ≤ y := fun y hy => by
    obtain ⟨w, hw, h1, h2⟩ := (hW0 y).1 hy
    exact (hG.rb w (by rw [hG.nb]; exact h1) y h2).1
  -- a number of its own
  have own : ∀ (X : Nat → Prop) (f' : Int → Option Nat), (∀ v ∈ kn[k]!, ∀ j, GS vars nc into bases lo v j ↔ X j) → (∃ j, X j) → (∀ o m, f' o = some m → s.ob o = some m ∨ (m = s.nx ∧ ∀ j : Nat, X j ↔ (j : Int) = o)) → ∃ D', DOk vars nc into bases lo kn (k + 1) ⟨setF s.lab k (s.nx : Int), s.nx + 1, f'⟩ D' := fun X f' hX hXn hf => by
    refine ⟨fun m => if m = s.nx then X else D m, fun p hp hl v hv j => ?_, fun p hp hl v hv => ?_, fun p m hp hl v hv j => ?_, fun o m hom j => ?_⟩
    · by_cases e : p = k
      · subst e
        have hl : setF s.lab p (s.nx : Int) p = -1 := hl
        rw [setF_at] at hl
        omega
      · have hl : setF s.lab k (s.nx : Int) p = -1 := hl
        rw [setF_ne _ _ e] at hl
        exact h.no p (by omega) hl v hv j
    · by_cases e : p = k
      · subst e
        obtain ⟨j, hj⟩ := hXn
        exact ⟨j, (hX v hv j).2 hj⟩
      · have hl : setF s.lab k (s.nx : Int) p ≠ -1 := hl
        rw [setF_ne _ _ e] at hl
        exact h.pos p (by omega) hl v hv
    · by_cases e : p = k
      · subst e
        have hl : setF s.lab p (s.nx : Int) p = (m : Int) := hl
        rw [setF_at] at hl
        have hm : m = s.nx := by omega
        rw [if_pos hm]
        exact hX v hv j
      · have hl : setF s.lab k (s.nx : Int) p = (m : Int) := hl
        rw [setF_ne _ _ e] at hl
        have hb := hLO.lab p (by omega)
        rw [if_neg (by omega)]
        exact h.so p m (by omega) hl v hv j
    · rcases hf o m hom with h1 | ⟨h1, h2⟩
      · have hb := hLO.ob o m h1
        rw [if_neg (by omega)]
        exact h.ob o m h1 j
      · rw [if_pos h1]
        exact h2 j
  -- one that is there
  have old : ∀ (l : Int) (m' : Nat), (l = -1 → ∀ v ∈ kn[k]!, ∀ j, ¬ GS vars nc into bases lo v j) → (∀ m : Nat, l = (m : Int) → (∃ j, D m j) ∧ ∀ v ∈ kn[k]!, ∀ j, GS vars nc into bases lo v j ↔ D m j) → -1 ≤ l → ∃ D', DOk vars nc into bases lo kn (k + 1) ⟨setF s.lab k l, m', s.ob⟩ D' := fun l m' h1 h2 h3 => by
    refine ⟨D, fun p hp hl v hv j => ?_, fun p hp hl v hv => ?_, fun p m hp hl v hv j => ?_, h.ob⟩
    · have hl : setF s.lab k l p = -1 := hl
      by_cases e : p = k
      · subst e
        rw [setF_at] at hl
        exact h1 hl v hv j
      · rw [setF_ne _ _ e] at hl
        exact h.no p (by omega) hl v hv j
    · have hl : setF s.lab k l p ≠ -1 := hl
      by_cases e : p = k
      · subst e
        rw [setF_at] at hl
        obtain ⟨m, rfl⟩ := Int.eq_ofNat_of_zero_le (show 0 ≤ l by omega)
        obtain ⟨⟨j, hj⟩, h5⟩ := h2 m rfl
        exact ⟨j, (h5 v hv j).2 hj⟩
      · rw [setF_ne _ _ e] at hl
        exact h.pos p (by omega) hl v hv
    · have hl : setF s.lab k l p = (m : Int) := hl
      by_cases e : p = k
      · subst e
        rw [setF_at] at hl
        exact (h2 m hl).2 v hv j
      · rw [setF_ne _ _ e] at hl
        exact h.so p m (by omega) hl v hv j
  clear hcase hs hS0
  have hLn : looK lo kn k = false → ∀ w ∈ kn[k]!, ¬ lo[w]! = true := fun hf w hw hl => by
    rw [hL0.2 ⟨w, hw, hl⟩] at hf
    cases hf
  generalize ownK vars bases kn k = W at *
  generalize seenK into kn of s.lab k = S at *
  unfold labelF
  split
  · rename_i hc
    refine own (fun j => (∃ w ∈ kn[k]!, lo[w]! = true ∧ j = nc + w) ∨ ((j : Int) ∈ W) ∨ ∃ m : Nat, (m : Int) ∈ S ∧ D m j) s.ob hgs ?_ (fun o m h1 => .inl h1)
    have seenOne : 1 ≤ S.length → ∃ j, (∃ w ∈ kn[k]!, lo[w]! = true ∧ j = nc + w) ∨ ((j : Int) ∈ W) ∨ ∃ m : Nat, (m : Int) ∈ S ∧ D m j := fun hl => by
      cases S with
      | nil => simp at hl
      | cons y r =>
        obtain ⟨m, rfl, _, j, hj⟩ := hne y (by simp)
        exact ⟨j, .inr (.inr ⟨m, by simp, hj⟩)⟩
    have ownOne : 1 ≤ W.length → ∃ j : Nat, (∃ w ∈ kn[k]!, lo[w]! = true ∧ j = nc + w) ∨ ((j : Int) ∈ W) ∨ ∃ m : Nat, (m : Int) ∈ S ∧ D m j := fun hl => by
      cases W with
      | nil => simp at hl
      | cons y r =>
        obtain ⟨j, rfl⟩ := Int.eq_ofNat_of_zero_le (hWP y (by simp))
        exact ⟨j, .inr (.inl (by simp))⟩
    rcases hc with h1 | h1 | h1 | h1
    · obtain ⟨w, hw, h2⟩ := hL0.1 h1
      exact ⟨_, .inl ⟨w, hw, h2, rfl⟩⟩
    · exact ownOne (by omega)
    · exact seenOne (by omega)
    · exact ownOne (by omega)
  · rename_i hc
    have hl : looK lo kn k = false := by cases hb : looK lo kn k with | false => rfl | true => exact absurd (.inl hb) hc
    have hno := hLn hl
    have hW1 : W.length ≤ 1 := by apply Classical.byContradiction; intro hh; exact hc (.inr (.inl (by omega)))
    have hS1 : S.length ≤ 1 := by apply Classical.byContradiction; intro hh; exact hc (.inr (.inr (.inl (by omega))))
    have hWS : ¬ (W.length = 1 ∧ S.length = 1) := fun hh => hc (.inr (.inr (.inr hh)))
    cases S with
    | cons y r =>
      have hr : r = [] := List.eq_nil_of_length_eq_zero (by rw [List.length_cons] at hS1; omega)
      subst hr
      have hWe : W = [] := List.eq_nil_of_length_eq_zero (by simp at hWS; omega)
      subst hWe
      obtain ⟨m, rfl, hm, hj⟩ := hne y (by simp)
      refine old (m : Int) s.nx (fun h => by omega) (fun m2 h2 => ?_) (by omega)
      have e : m2 = m := by omega
      subst e
      refine ⟨hj, fun v hv j => ?_⟩
      rw [hgs v hv j]
      constructor
      · rintro (⟨w, hw, h1, _⟩ | h1 | ⟨m3, h1, h2⟩)
        · exact absurd h1 (hno w hw)
        · cases h1
        · simp at h1
          rw [← show m3 = m2 by omega]
          exact h2
      · exact fun h => .inr (.inr ⟨m2, by simp, h⟩)
    | nil =>
      cases W with
      | nil =>
        refine old (-1) s.nx (fun _ v hv j hj => ?_) (fun m hm => by omega) (by omega)
        rcases (hgs v hv j).1 hj with ⟨w, hw, h1, _⟩ | h1 | ⟨m3, h1, h2⟩
        · exact absurd h1 (hno w hw)
        · cases h1
        · cases h1
      | cons o r =>
        have hr : r = [] := List.eq_nil_of_length_eq_zero (by rw [List.length_cons] at hW1; omega)
        subst hr
        have hX : ∀ v ∈ kn[k]!, ∀ j : Nat, GS vars nc into bases lo v j ↔ (j : Int) = o := fun v hv j => by
          rw [hgs v hv j]
          constructor
          · rintro (⟨w, hw, h1, _⟩ | h1 | ⟨m3, h1, h2⟩)
            · exact absurd h1 (hno w hw)
            · simpa using h1
            · cases h1
          · exact fun h => .inr (.inl (by simp [h]))
        obtain ⟨jo, hjo⟩ := Int.eq_ofNat_of_zero_le (hWP o (by simp))
        cases hq : s.ob o with
        | some q =>
          simp only [labelO, hq]
          have hD := h.ob o q hq
          refine old (q : Int) s.nx (fun h => by omega) (fun m2 h2 => ?_) (by omega)
          have e : m2 = q := by omega
          subst e
          exact ⟨⟨jo, (hD jo).2 hjo.symm⟩, fun v hv j => (hX v hv j).trans (hD j).symm⟩
        | none =>
          simp only [labelO, hq]
          refine own (fun j => (j : Int) = o) _ hX ⟨jo, hjo.symm⟩ (fun x m hx => ?_)
          unfold putN at hx
          split at hx
          · rename_i e
            injection hx with hx
            exact .inr ⟨hx.symm, fun j => by rw [e]⟩
          · exact .inl hx
theorem dok (hG : GOk vars into bases lo) (hK : KnOk into kn of) (nc : Nat) : ∀ k, k ≤ kn.length → ∃ D, DOk vars nc into bases lo kn k (labN vars into bases lo kn of k) D
  | 0, _ => ⟨fun _ _ => False, fun p hp => absurd hp (Nat.not_lt_zero p), fun p hp => absurd hp (Nat.not_lt_zero p), fun p m hp => absurd hp (Nat.not_lt_zero p), fun o m h => by cases h⟩
  | k + 1, hk => by
    obtain ⟨D, h⟩ := dok hG hK nc k (by omega)
    exact dok_next hG hK (by omega) h
theorem lv_none (hG : GOk vars into bases lo) (hK : KnOk into kn of) (nc : Nat) {v : Nat} (hv : v < into.length) : lv vars into bases lo kn of v = -1 ↔ ∀ j, ¬ GS vars nc into bases lo v j := by
  obtain ⟨D, h⟩ := dok hG hK nc kn.length (Nat.le_refl _)
  obtain ⟨h1, h2⟩ := hK.at_ v hv
  constructor
  · exact fun e j => h.no _ h1 e v h2 j
  · intro hn
    apply Classical.byContradiction
    intro e
    obtain ⟨j, hj⟩ := h.pos _ h1 e v h2
    exact hn j hj
theorem lv_same (hG : GOk vars into bases lo) (hK : KnOk into kn of) (nc : Nat) {v u : Nat} (hv : v < into.length) (hu : u < into.length) (e : lv vars into bases lo kn of v = lv vars into bases lo kn of u) (j : Nat) : GS vars nc into bases lo v j ↔ GS vars nc into bases lo u j := by
  obtain ⟨D, h⟩ := dok hG hK nc kn.length (Nat.le_refl _)
  obtain ⟨h1, h2⟩ := hK.at_ v hv
  obtain ⟨h3, h4⟩ := hK.at_ u hu
  have hl := (labN_ok hG hK kn.length (Nat.le_refl _)).lab _ h1
  by_cases hn : lv vars into bases lo kn of v = -1
  · exact ⟨fun h5 => absurd h5 (h.no _ h1 hn v h2 j), fun h5 => absurd h5 (h.no _ h3 (show lv vars into bases lo kn of u = -1 by rw [← e]; exact hn) u h4 j)⟩
  · obtain ⟨m, hm⟩ := Int.eq_ofNat_of_zero_le (show 0 ≤ lv vars into bases lo kn of v by
      have : lv vars into bases lo kn of v = (labN vars into bases lo kn of kn.length).lab (of v) := rfl
      omega)
    exact (h.so _ m h1 hm v h2 j).trans (h.so _ m h3 (show lv vars into bases lo kn of u = (m : Int) by rw [← e]; exact hm) u h4 j).symm
end
end Go.Proofs.Ytjggjhgbobmkhaa

/- A system's graph tells its sources: plain. -/
namespace Go.Proofs.Ytjggjhgbobmkhaa
set_option linter.unusedVariables false
set_option linter.unusedSimpArgs false
section
variable {n : Nat} {xs : List Cell} {ys : List Con}
abbrev gl (n : Nat) (xs : List Cell) (ys : List Con) (kn : List (List Nat)) (of : Nat → Nat) (v : Nat) : Int := lv n (gInto n xs ys) (gBases n xs ys) (gLoose n xs ys) kn of v
end
end Go.Proofs.Ytjggjhgbobmkhaa
