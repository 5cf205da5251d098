/- Several texts of one claim in one file: HL18 HA18 SB12 HB18. -/
import Derived.Test.YtjggjhgbobmkhaaY19
import Derived.Test.YtjggjhgbobmkhaaY20
import Derived.Test.YtjggjhgbobmkhaaY17
import Derived.Test.YtjggjhgbobmkhaaY14
import Derived.Test.YtjggjhgbobmkhaaY6
import Derived.Test.YtjggjhgbobmkhaaY15
/- The walk of hu.Labels. -/
namespace Go.Proofs.Ytjggjhgbobmkhaa
open Go.RowKit
set_option linter.unusedVariables false
set_option linter.unusedSimpArgs false
set_option maxRecDepth 100000
theorem pickF {β : Type} [Inhabited β] {n : Nat} {R : Nat → β → Prop} (h : ∀ v, v < n → ∃ b, R v b) : ∃ f : Nat → β, ∀ v, v < n → R v (f v) :=
  ⟨fun v => if hv : v < n then (h v hv).choose else default, fun v hv => by simp only [hv, dif_pos]; exact (h v hv).choose_spec⟩
theorem numsB_zero {bs : List Blk} (h : WFB bs) : (numsB bs).length = 0 ↔ ∀ j, ¬ memB bs j = true := by
  constructor
  · intro e j hj
    have : (j : Int) ∈ numsB bs := (mem_numsB h).2 ⟨by omega, by simpa using hj⟩
    rw [List.length_eq_zero_iff.1 e] at this
    cases this
  · intro e
    refine List.length_eq_zero_iff.2 (List.eq_nil_iff_forall_not_mem.2 fun x hx => ?_)
    exact e _ ((mem_numsB h).1 hx).2
theorem PSet.keptL {B g : Nat} {w w1 : World} {bs : List Blk} {fp rb : List Nat} (h : PSet B g w bs fp) (hk : Kept rb w w1) (hr : ∀ b ∈ rb, b < B) : PSet B g w1 bs fp := h.kept hk fun b hb hm => by
  have h1 := (h.lt b hb).1
  have h2 := hr b hm
  omega
set_option maxHeartbeats 16000000 in
theorem huLabels (vars nc : Nat) (into bases : List (List Int)) (lo : List Bool) (A B C : Option Addr) (ca cb cc : Nat) (w : World) (hG : GOk vars into bases lo) (hnc : nc ≤ 16384) (hbl : ∀ v, v < vars → (bases[v]!).length ≤ 1048576) (hA : RRows w A into) (hB : RRows w B bases) (hC : RowR 1 dB w C lo) :
    Calls Try.prog 16 #[.agg #[.int .i64 vars, .slice A into.length ca, .slice B bases.length cb, .slice C lo.length cc], .int .i64 nc] w fun e w' => ∃ go hl, e = .returned (.slice (some ⟨go, 0, none⟩) vars vars) ∧ w'.heap[go]? = some (.cells (fZ vars hl).toArray 3 (0, 0)) ∧
      Canon vars hl (fun v u => ∀ j, GS vars nc into bases lo v j ↔ GS vars nc into bases lo u j) (fun v => ∀ j, ¬ GS vars nc into bases lo v j) ∧ Below w.heap.size w w' := by
  have hsm := hG.small
  refine enterR (args := [.agg #[.int .i64 vars, .slice A into.length ca, .slice B bases.length cb, .slice C lo.length cc], .int .i64 nc]) tabOk Try.func16 rfl Try.ntmps16 rfl ?_; conv => whnf
  refine wl_box rfl rfl rfl rfl rfl rfl ?_
  intro g1 w1 hn1
  have hb1 := hn1.blk
  refine run_l tabOk ?_
  conv => whnf
  refine wl_mkM rfl rfl rfl rfl ?_
  intro bm w2 hbm hw2 hB2
  refine run_l tabOk ?_
  conv => whnf
  have hb2 := blk_up hB2 hb1
  have hS2 : SNum w2 bm [] 0 := by rw [hbm]; exact StrM.made hw2
  (repeat' (first | (refine wl_Lg tabOk hb2 rfl rfl rfl rfl rfl rfl rfl (run_l tabOk ?_); conv => whnf) | (refine wl_add rfl rfl rfl rfl rfl rfl (by omega) (by omega) (run_l tabOk ?_); conv => whnf) | (refine wl_sub rfl rfl rfl rfl rfl rfl (by omega) (by omega) (run_l tabOk ?_); conv => whnf) | (refine wl_cvA tabOk rfl rfl rfl (by simp only [inK]; omega) rfl rfl rfl (run_l tabOk ?_); conv => whnf) | (refine wl_cvB tabOk rfl rfl rfl rfl rfl rfl (run_l tabOk ?_); conv => whnf) | (refine wl_rem rfl rfl rfl rfl rfl rfl (by omega) (by omega) (fun r hr hr0 hr1 hr2 => run_l tabOk ?_); conv => whnf) | (refine wl_quo rfl rfl rfl rfl rfl rfl (by omega) (by omega) (by simp only [inK]; omega) (run_l tabOk ?_); conv => whnf) | (refine wl_mul rfl rfl rfl rfl rfl rfl (by omega) (by omega) (run_l tabOk ?_); conv => whnf) | (refine gs_dt (by first | assumption | omega) ?_; conv => whnf) | (refine gs_df (by first | assumption | omega) ?_; conv => whnf) | (refine gs_t (by assumption) ?_; conv => whnf) | (refine gs_f (by assumption) ?_; conv => whnf) | (refine gs_d (fun hg => ?_) (fun hg => ?_) <;> conv => whnf) | (refine gs_n (fun hg => ?_) (fun hg => ?_) <;> conv => whnf) | (refine gs_nb (fun hg => ?_) (fun hg => ?_) <;> conv => whnf) | (refine gs_b (fun hg => ?_) (fun hg => ?_) <;> conv => whnf) | refine fin1 rfl rfl ?_))
  refine wl_mk (m := vars) tabOk 3 1 8 rfl rfl rfl rfl rfl rfl rfl rfl rfl (by omega) (by omega) ?_
  intro gl w5 hn5
  have hb5 : w5.heap[g1]? = some (.cells #[.int .i64 vars, .slice A into.length ca, .slice B bases.length cb, .slice C lo.length cc] 36 (0, 0)) := blk_up hn5.below hb2
  have hS5 := hS2.up hn5.below
  have hr5 : w5.heap[gl]? = some (.cells (fZ vars fun _ => 0).toArray 3 (0, 0)) := by rw [← fZ_zero]; exact hn5.blk
  have hB05 := bup (bup hn1.below hB2) hn5.below
  have hgl : w.heap.size ≤ gl ∧ w.heap.size ≤ bm ∧ gl < w5.heap.size ∧ bm < w5.heap.size := by
    have h1 := hn1.size
    have h2 := hn5.at_
    have h3 := hB2.size
    have h4 := blk_lt hr5
    have h5 := hS5.lt
    omega
  clear hn1 hb1 hbm hw2 hB2 hb2 hS2 hn5
  refine run_l tabOk ?_
  conv => whnf
  (repeat' (first | (refine wl_Lag tabOk hb5 rfl rfl rfl rfl rfl rfl (run_l tabOk ?_); conv => whnf) | (refine wl_add rfl rfl rfl rfl rfl rfl (by omega) (by omega) (run_l tabOk ?_); conv => whnf) | (refine wl_sub rfl rfl rfl rfl rfl rfl (by omega) (by omega) (run_l tabOk ?_); conv => whnf) | (refine wl_cvA tabOk rfl rfl rfl (by simp only [inK]; omega) rfl rfl rfl (run_l tabOk ?_); conv => whnf) | (refine wl_cvB tabOk rfl rfl rfl rfl rfl rfl (run_l tabOk ?_); conv => whnf) | (refine wl_rem rfl rfl rfl rfl rfl rfl (by omega) (by omega) (fun r hr hr0 hr1 hr2 => run_l tabOk ?_); conv => whnf) | (refine wl_quo rfl rfl rfl rfl rfl rfl (by omega) (by omega) (by simp only [inK]; omega) (run_l tabOk ?_); conv => whnf) | (refine wl_mul rfl rfl rfl rfl rfl rfl (by omega) (by omega) (run_l tabOk ?_); conv => whnf) | (refine gs_dt (by first | assumption | omega) ?_; conv => whnf) | (refine gs_df (by first | assumption | omega) ?_; conv => whnf) | (refine gs_t (by assumption) ?_; conv => whnf) | (refine gs_f (by assumption) ?_; conv => whnf) | (refine gs_d (fun hg => ?_) (fun hg => ?_) <;> conv => whnf) | (refine gs_n (fun hg => ?_) (fun hg => ?_) <;> conv => whnf) | (refine gs_nb (fun hg => ?_) (fun hg => ?_) <;> conv => whnf) | (refine gs_b (fun hg => ?_) (fun hg => ?_) <;> conv => whnf) | refine fin1 rfl rfl ?_))
  refine wl_C fn21 (huSources vars nc into bases lo A B C ca cb cc w5 hG hnc hbl (hA.up stays_Ints hB05) (hB.up stays_Ints hB05) (hC.up stays_B hB05)) rfl rfl rfl rfl rfl rfl rfl ?_
  rintro _ w6 ⟨g9, f, rfl, hr9, hsets, hB6⟩
  have hr6 := blk_up hB6 hr5
  have hS6 := hS5.up hB6
  have hne : g9 ≠ gl ∧ g9 ≠ bm := by
    refine ⟨fun e => ?_, fun e => ?_⟩
    · rw [e, hr6] at hr9
      simp only [Option.some.injEq, Obj.cells.injEq] at hr9
      exact absurd hr9.2.1 (by decide)
    · obtain ⟨D, ⟨es, clock, hb, _⟩, _⟩ := hS6.ex
      rw [e, hb] at hr9
      cases hr9
  obtain ⟨sb, hsb⟩ : ∃ sb : Nat → List Blk, ∀ v, v < vars → ∃ g fp, f v = .pointer (some ⟨g, 0, none⟩) ∧ PSet w5.heap.size g w6 (sb v) fp ∧ (∀ j, memB (sb v) j = true ↔ GS vars nc into bases lo v j) ∧ (sb v).length ≤ 1024 := pickF (R := fun v s => ∃ g fp, f v = .pointer (some ⟨g, 0, none⟩) ∧ PSet w5.heap.size g w6 s fp ∧ (∀ j, memB s j = true ↔ GS vars nc into bases lo v j) ∧ s.length ≤ 1024) fun v hv => by
    obtain ⟨g, e, hc⟩ := hsets v hv
    obtain ⟨bs, fp, h1, h2, h3⟩ := hc.ex
    exact ⟨bs, g, fp, e, h1, h2, h3⟩
  have hwf : ∀ v, v < vars → WFB (sb v) := fun v hv => by obtain ⟨g, fp, _, h, _⟩ := hsb v hv; exact h.wf
  have hmm : ∀ v, v < vars → ∀ j, memB (sb v) j = true ↔ GS vars nc into bases lo v j := fun v hv => by obtain ⟨g, fp, _, _, h, _⟩ := hsb v hv; exact h
  have hlt : ∀ v, v < vars → ∀ b ∈ sb v, b.a < 4294967296 := fun v hv b hb => by
    obtain ⟨i, hi, e⟩ := List.getElem_of_mem hb
    have hw := hwf v hv
    have hr := hw.rng b hb
    obtain ⟨k, hk, ht⟩ := bit_some hr.2.2.1 hr.2.2.2
    have hd := num_div b.a hr.1 k hk
    have hbe : (sb v)[i]! = b := by rw [getElem!_pos _ i hi, e]
    have h2 := hw.at_ (n := 64 * b.a.toNat + k) hi (by rw [hbe]; exact hd.1.symm)
    rw [hbe, hd.2, ht] at h2
    have h3 := GS.lt hG hnc (v := v) (by have := hG.ni; omega) ((hmm v hv _).1 h2)
    omega
  obtain ⟨Z, hZ⟩ : ∃ Z : Nat → Prop, Z = fun v => ∀ j, ¬ GS vars nc into bases lo v j := ⟨_, rfl⟩
  obtain ⟨key, hkey⟩ : ∃ key : Nat → ByteArray, key = fun v => strB (keyB (sb v)) := ⟨_, rfl⟩
  have hz : ∀ v, v < vars → ((numsB (sb v)).length = 0 ↔ Z v) := fun v hv => by
    rw [numsB_zero (hwf v hv), hZ]
    exact forall_congr' fun j => not_congr (hmm v hv j)
  have hks : ∀ v, v < vars → (key v).size ≤ maxLen := fun v hv => by
    obtain ⟨g, fp, _, _, _, h4⟩ := hsb v hv
    rw [hkey]
    show (strB (keyB (sb v))).size ≤ maxLen
    have h1 : (strB (keyB (sb v))).size = (strB (keyB (sb v))).data.toList.length := by rw [Array.length_toList]; rfl
    have h2 : (strB (keyB (sb v))).data.toList = (keyB (sb v)).map UInt8.ofNat := by
      have := foldB (keyB (sb v)) ByteArray.empty
      simpa [strB] using this
    rw [h1, h2, List.length_map, keyB_len]
    simp only [maxLen]
    omega
  have hke : ∀ a b, a < vars → b < vars → (key a = key b ↔ ∀ j, GS vars nc into bases lo a j ↔ GS vars nc into bases lo b j) := fun a b ha hb => by
    have h1 := keyS_eq (hwf a ha) (hwf b hb) (hlt a ha) (hlt b hb)
    rw [bbeq] at h1
    have h2 : key a = key b ↔ sb a = sb b := by rw [hkey]; exact decide_eq_decide.1 h1
    rw [h2]
    constructor
    · intro e j
      rw [← hmm a ha, ← hmm b hb, e]
    · intro h
      exact canonB (hwf a ha) (hwf b hb) fun j => Bool.eq_iff_iff.2 ((hmm a ha j).trans ((h j).trans (hmm b hb j).symm))
  have hkd : ∀ v, key v = strB (keyB (sb v)) := fun v => by rw [hkey]
  clear hkey hsets hmm hwf hlt
  refine ⟨_, rfl, run_l tabOk ?_⟩
  conv => whnf
  (repeat' (first | (refine wl_add rfl rfl rfl rfl rfl rfl (by omega) (by omega) (run_l tabOk ?_); conv => whnf) | (refine wl_sub rfl rfl rfl rfl rfl rfl (by omega) (by omega) (run_l tabOk ?_); conv => whnf) | (refine wl_cvA tabOk rfl rfl rfl (by simp only [inK]; omega) rfl rfl rfl (run_l tabOk ?_); conv => whnf) | (refine wl_cvB tabOk rfl rfl rfl rfl rfl rfl (run_l tabOk ?_); conv => whnf) | (refine wl_rem rfl rfl rfl rfl rfl rfl (by omega) (by omega) (fun r hr hr0 hr1 hr2 => run_l tabOk ?_); conv => whnf) | (refine wl_quo rfl rfl rfl rfl rfl rfl (by omega) (by omega) (by simp only [inK]; omega) (run_l tabOk ?_); conv => whnf) | (refine wl_mul rfl rfl rfl rfl rfl rfl (by omega) (by omega) (run_l tabOk ?_); conv => whnf) | (refine gs_dt (by first | assumption | omega) ?_; conv => whnf) | (refine gs_df (by first | assumption | omega) ?_; conv => whnf) | (refine gs_t (by assumption) ?_; conv => whnf) | (refine gs_f (by assumption) ?_; conv => whnf) | (refine gs_d (fun hg => ?_) (fun hg => ?_) <;> conv => whnf) | (refine gs_n (fun hg => ?_) (fun hg => ?_) <;> conv => whnf) | (refine gs_nb (fun hg => ?_) (fun hg => ?_) <;> conv => whnf) | (refine gs_b (fun hg => ?_) (fun hg => ?_) <;> conv => whnf) | refine fin1 rfl rfl ?_))
  refine wc_ends 0 (fun _ _ => False) (X := Unit) (fun _ => [(6, .slice (some ⟨gl, 0, none⟩) vars vars)]) (fun _ wj => ∃ hl L, Kept [gl, bm] w6 wj ∧ wj.heap[gl]? = some (.cells (fZ vars hl).toArray 3 (0, 0)) ∧ LbI Z key vars hl L) ?_ (fun _ _ h => h.elim) ?_
  · refine lp_loop tabOk (X := Nat) (fun v => [(5, .map (some bm)), (6, .slice (some ⟨gl, 0, none⟩) vars vars), (18, .slice (some ⟨g9, 0, none⟩) vars vars), (19, .int .i64 (vars : Int)), (20, .int .i64 (v : Int))]) (fun v wj => v ≤ vars ∧ ∃ hl L n, n ≤ v ∧ Kept [gl, bm] w6 wj ∧ wj.heap[gl]? = some (.cells (fZ vars hl).toArray 3 (0, 0)) ∧ SNum wj bm L n ∧ LbI Z key v hl L) (fun v => vars - v) 0 ⟨rfl, rfl, rfl, rfl, rfl, trivial⟩ ⟨by omega, _, [], 0, Nat.le_refl _, Kept.refl _ _, hr6, hS6, LbI.start _⟩ ?_
    clear hr6 hS6 hr5 hS5 hb5
    rintro v G wj ⟨hv, hl, L, n, hn, hkj, hrj, hSj, hI⟩
    by_cases hvn : v < vars
    · obtain ⟨g, fp, hfv, hP6, hmem, hfew⟩ := hsb v hvn
      have hPj := hP6.keptL hkj (by simp; omega)
      have hc9 : wj.cell? ((⟨g9, 0, none⟩ : Addr).add (v * 1)) = some (.pointer (some ⟨g, 0, none⟩)) := by
        rw [Nat.mul_one, add_zero, ← hfv]
        exact cell_blk (hkj.blk hr9 (by simp; exact hne)) (by simpa using pvs_get hvn)
      have hbg : bm ≠ gl := fun e => by
        obtain ⟨D, ⟨es, clock, hb, _⟩, _⟩ := hSj.ex
        rw [e, hrj] at hb
        cases hb
      have hLl := hI.len
      conv => whnf
      (repeat' (first | (refine wl_L tabOk rfl rfl rfl rfl rfl rfl hc9 (run_l tabOk ?_); conv => whnf) | (refine wl_Xn tabOk 50 1 rfl rfl rfl rfl rfl rfl rfl (by omega) (run_l tabOk ?_); conv => whnf) | (refine wl_Xn tabOk 3 1 rfl rfl rfl rfl rfl rfl rfl (by omega) (run_l tabOk ?_); conv => whnf) | (refine wl_add rfl rfl rfl rfl rfl rfl (by omega) (by omega) (run_l tabOk ?_); conv => whnf) | (refine wl_sub rfl rfl rfl rfl rfl rfl (by omega) (by omega) (run_l tabOk ?_); conv => whnf) | (refine wl_cvA tabOk rfl rfl rfl (by simp only [inK]; omega) rfl rfl rfl (run_l tabOk ?_); conv => whnf) | (refine wl_cvB tabOk rfl rfl rfl rfl rfl rfl (run_l tabOk ?_); conv => whnf) | (refine wl_rem rfl rfl rfl rfl rfl rfl (by omega) (by omega) (fun r hr hr0 hr1 hr2 => run_l tabOk ?_); conv => whnf) | (refine wl_quo rfl rfl rfl rfl rfl rfl (by omega) (by omega) (by simp only [inK]; omega) (run_l tabOk ?_); conv => whnf) | (refine wl_mul rfl rfl rfl rfl rfl rfl (by omega) (by omega) (run_l tabOk ?_); conv => whnf) | (refine gs_dt (by first | assumption | omega) ?_; conv => whnf) | (refine gs_df (by first | assumption | omega) ?_; conv => whnf) | (refine gs_t (by assumption) ?_; conv => whnf) | (refine gs_f (by assumption) ?_; conv => whnf) | (refine gs_d (fun hg => ?_) (fun hg => ?_) <;> conv => whnf) | (refine gs_n (fun hg => ?_) (fun hg => ?_) <;> conv => whnf) | (refine gs_nb (fun hg => ?_) (fun hg => ?_) <;> conv => whnf) | (refine gs_b (fun hg => ?_) (fun hg => ?_) <;> conv => whnf) | refine fin1 rfl rfl ?_))
      refine wl_Se (j := v * 1) (v := .int .i64 (-1)) tabOk hrj rfl rfl rfl rfl rfl rfl (by rw [fZ_len]; omega) rfl rfl ?_
      intro w7 hp7
      rw [Nat.mul_one, fZ_set] at hp7
      have hk7 := hkj.put hp7 (.inl (by simp))
      have hP7 := hP6.keptL hk7 (by simp; omega)
      have hr7 := hp7.blk
      have hS7 := hSj.kept hp7.grown (fun e => by injection e with e; exact hbg e)
      clear hp7 hPj
      refine run_l tabOk ?_
      conv => whnf
      refine wl_C fn23 (pLen hP7 (by omega)) rfl rfl rfl rfl rfl rfl rfl ?_
      rintro _ w8 ⟨rfl, hB8⟩
      have hk8 := hk7.up hB8
      have hr8 := blk_up hB8 hr7
      have hS8 := hS7.up hB8
      have hP8 := hP7.up hB8
      refine ⟨_, rfl, run_l tabOk ?_⟩
      conv => whnf
      by_cases hzv : Z v
      · have h0 := (hz v hvn).2 hzv
        (repeat' (first | (refine wl_add rfl rfl rfl rfl rfl rfl (by omega) (by omega) (run_l tabOk ?_); conv => whnf) | (refine wl_sub rfl rfl rfl rfl rfl rfl (by omega) (by omega) (run_l tabOk ?_); conv => whnf) | (refine wl_cvA tabOk rfl rfl rfl (by simp only [inK]; omega) rfl rfl rfl (run_l tabOk ?_); conv => whnf) | (refine wl_cvB tabOk rfl rfl rfl rfl rfl rfl (run_l tabOk ?_); conv => whnf) | (refine wl_rem rfl rfl rfl rfl rfl rfl (by omega) (by omega) (fun r hr hr0 hr1 hr2 => run_l tabOk ?_); conv => whnf) | (refine wl_quo rfl rfl rfl rfl rfl rfl (by omega) (by omega) (by simp only [inK]; omega) (run_l tabOk ?_); conv => whnf) | (refine wl_mul rfl rfl rfl rfl rfl rfl (by omega) (by omega) (run_l tabOk ?_); conv => whnf) | (refine gs_dt (by first | assumption | omega) ?_; conv => whnf) | (refine gs_df (by first | assumption | omega) ?_; conv => whnf) | (refine gs_t (by assumption) ?_; conv => whnf) | (refine gs_f (by assumption) ?_; conv => whnf) | (refine gs_d (fun hg => ?_) (fun hg => ?_) <;> conv => whnf) | (refine gs_n (fun hg => ?_) (fun hg => ?_) <;> conv => whnf) | (refine gs_nb (fun hg => ?_) (fun hg => ?_) <;> conv => whnf) | (refine gs_b (fun hg => ?_) (fun hg => ?_) <;> conv => whnf) | refine fin1 rfl rfl ?_))
        exact ⟨v + 1, ⟨rfl, rfl, rfl, rfl, rfl, trivial⟩, ⟨by omega, _, L, n, by omega, hk8, hr8, hS8, hI.zero hzv⟩, by omega⟩
      · have h0 : 0 < (numsB (sb v)).length := by
          exact Nat.pos_of_ne_zero fun e => hzv ((hz v hvn).1 e)
        (repeat' (first | (refine wl_add rfl rfl rfl rfl rfl rfl (by omega) (by omega) (run_l tabOk ?_); conv => whnf) | (refine wl_sub rfl rfl rfl rfl rfl rfl (by omega) (by omega) (run_l tabOk ?_); conv => whnf) | (refine wl_cvA tabOk rfl rfl rfl (by simp only [inK]; omega) rfl rfl rfl (run_l tabOk ?_); conv => whnf) | (refine wl_cvB tabOk rfl rfl rfl rfl rfl rfl (run_l tabOk ?_); conv => whnf) | (refine wl_rem rfl rfl rfl rfl rfl rfl (by omega) (by omega) (fun r hr hr0 hr1 hr2 => run_l tabOk ?_); conv => whnf) | (refine wl_quo rfl rfl rfl rfl rfl rfl (by omega) (by omega) (by simp only [inK]; omega) (run_l tabOk ?_); conv => whnf) | (refine wl_mul rfl rfl rfl rfl rfl rfl (by omega) (by omega) (run_l tabOk ?_); conv => whnf) | (refine gs_dt (by first | assumption | omega) ?_; conv => whnf) | (refine gs_df (by first | assumption | omega) ?_; conv => whnf) | (refine gs_t (by assumption) ?_; conv => whnf) | (refine gs_f (by assumption) ?_; conv => whnf) | (refine gs_d (fun hg => ?_) (fun hg => ?_) <;> conv => whnf) | (refine gs_n (fun hg => ?_) (fun hg => ?_) <;> conv => whnf) | (refine gs_nb (fun hg => ?_) (fun hg => ?_) <;> conv => whnf) | (refine gs_b (fun hg => ?_) (fun hg => ?_) <;> conv => whnf) | refine fin1 rfl rfl ?_))
        refine wl_C fn32 (pKey hP8 (by omega)) rfl rfl rfl rfl rfl rfl rfl ?_
        rintro _ w9 ⟨rfl, hB9⟩
        have hk9 := hk8.up hB9
        have hr9' := blk_up hB9 hr8
        have hS9 := hS8.up hB9
        rw [← hkd v]
        refine ⟨_, rfl, run_l tabOk ?_⟩
        conv => whnf
        obtain ⟨x, ok, hlk, hok, hix⟩ := hS9.look strTy (zeroI _) (hks v hvn)
        refine wl_lkM hlk rfl rfl rfl rfl rfl rfl ?_
        refine run_l tabOk ?_
        conv => whnf
        have hoc : ok = true ∨ ok = false := by cases ok <;> simp
        rcases hoc with rfl | rfl
        · have hin := hok.1 rfl
          obtain ⟨i, hi, e⟩ := List.getElem_of_mem hin
          have he : L[i]! = key v := by rw [getElem!_pos L i hi, e]
          have hxi := hix i hi he
          subst hxi
          conv => whnf
          (repeat' (first | (refine wl_Xn tabOk 3 1 rfl rfl rfl rfl rfl rfl rfl (by omega) (run_l tabOk ?_); conv => whnf) | (refine wl_add rfl rfl rfl rfl rfl rfl (by omega) (by omega) (run_l tabOk ?_); conv => whnf) | (refine wl_sub rfl rfl rfl rfl rfl rfl (by omega) (by omega) (run_l tabOk ?_); conv => whnf) | (refine wl_cvA tabOk rfl rfl rfl (by simp only [inK]; omega) rfl rfl rfl (run_l tabOk ?_); conv => whnf) | (refine wl_cvB tabOk rfl rfl rfl rfl rfl rfl (run_l tabOk ?_); conv => whnf) | (refine wl_rem rfl rfl rfl rfl rfl rfl (by omega) (by omega) (fun r hr hr0 hr1 hr2 => run_l tabOk ?_); conv => whnf) | (refine wl_quo rfl rfl rfl rfl rfl rfl (by omega) (by omega) (by simp only [inK]; omega) (run_l tabOk ?_); conv => whnf) | (refine wl_mul rfl rfl rfl rfl rfl rfl (by omega) (by omega) (run_l tabOk ?_); conv => whnf) | (refine gs_dt (by first | assumption | omega) ?_; conv => whnf) | (refine gs_df (by first | assumption | omega) ?_; conv => whnf) | (refine gs_t (by assumption) ?_; conv => whnf) | (refine gs_f (by assumption) ?_; conv => whnf) | (refine gs_d (fun hg => ?_) (fun hg => ?_) <;> conv => whnf) | (refine gs_n (fun hg => ?_) (fun hg => ?_) <;> conv => whnf) | (refine gs_nb (fun hg => ?_) (fun hg => ?_) <;> conv => whnf) | (refine gs_b (fun hg => ?_) (fun hg => ?_) <;> conv => whnf) | refine fin1 rfl rfl ?_))
          refine wl_Se (j := v * 1) (v := .int .i64 (i : Int)) tabOk hr9' rfl rfl rfl rfl rfl rfl (by rw [fZ_len]; omega) rfl rfl ?_
          intro w10 hp10
          rw [Nat.mul_one, fZ_set] at hp10
          have hs2 : setF (setF hl v (-1)) v (i : Int) = setF hl v (i : Int) := by
            funext q
            unfold setF
            split <;> rfl
          rw [hs2] at hp10
          refine run_l tabOk ?_
          conv => whnf
          (repeat' (first | (refine wl_add rfl rfl rfl rfl rfl rfl (by omega) (by omega) (run_l tabOk ?_); conv => whnf) | (refine wl_sub rfl rfl rfl rfl rfl rfl (by omega) (by omega) (run_l tabOk ?_); conv => whnf) | (refine wl_cvA tabOk rfl rfl rfl (by simp only [inK]; omega) rfl rfl rfl (run_l tabOk ?_); conv => whnf) | (refine wl_cvB tabOk rfl rfl rfl rfl rfl rfl (run_l tabOk ?_); conv => whnf) | (refine wl_rem rfl rfl rfl rfl rfl rfl (by omega) (by omega) (fun r hr hr0 hr1 hr2 => run_l tabOk ?_); conv => whnf) | (refine wl_quo rfl rfl rfl rfl rfl rfl (by omega) (by omega) (by simp only [inK]; omega) (run_l tabOk ?_); conv => whnf) | (refine wl_mul rfl rfl rfl rfl rfl rfl (by omega) (by omega) (run_l tabOk ?_); conv => whnf) | (refine gs_dt (by first | assumption | omega) ?_; conv => whnf) | (refine gs_df (by first | assumption | omega) ?_; conv => whnf) | (refine gs_t (by assumption) ?_; conv => whnf) | (refine gs_f (by assumption) ?_; conv => whnf) | (refine gs_d (fun hg => ?_) (fun hg => ?_) <;> conv => whnf) | (refine gs_n (fun hg => ?_) (fun hg => ?_) <;> conv => whnf) | (refine gs_nb (fun hg => ?_) (fun hg => ?_) <;> conv => whnf) | (refine gs_b (fun hg => ?_) (fun hg => ?_) <;> conv => whnf) | refine fin1 rfl rfl ?_))
          exact ⟨v + 1, ⟨rfl, rfl, rfl, rfl, rfl, trivial⟩, ⟨by omega, _, L, n, by omega, hk9.put hp10 (.inl (by simp)), hp10.blk, hS9.kept hp10.grown (fun e => by injection e with e; exact hbg e), hI.old hzv hi he⟩, by omega⟩
        · have hnin : key v ∉ L := fun h => by have := hok.2 h; cases this
          conv => whnf
          (repeat' (first | (refine wl_Xn tabOk 3 1 rfl rfl rfl rfl rfl rfl rfl (by omega) (run_l tabOk ?_); conv => whnf) | (refine wl_add rfl rfl rfl rfl rfl rfl (by omega) (by omega) (run_l tabOk ?_); conv => whnf) | (refine wl_sub rfl rfl rfl rfl rfl rfl (by omega) (by omega) (run_l tabOk ?_); conv => whnf) | (refine wl_cvA tabOk rfl rfl rfl (by simp only [inK]; omega) rfl rfl rfl (run_l tabOk ?_); conv => whnf) | (refine wl_cvB tabOk rfl rfl rfl rfl rfl rfl (run_l tabOk ?_); conv => whnf) | (refine wl_rem rfl rfl rfl rfl rfl rfl (by omega) (by omega) (fun r hr hr0 hr1 hr2 => run_l tabOk ?_); conv => whnf) | (refine wl_quo rfl rfl rfl rfl rfl rfl (by omega) (by omega) (by simp only [inK]; omega) (run_l tabOk ?_); conv => whnf) | (refine wl_mul rfl rfl rfl rfl rfl rfl (by omega) (by omega) (run_l tabOk ?_); conv => whnf) | (refine gs_dt (by first | assumption | omega) ?_; conv => whnf) | (refine gs_df (by first | assumption | omega) ?_; conv => whnf) | (refine gs_t (by assumption) ?_; conv => whnf) | (refine gs_f (by assumption) ?_; conv => whnf) | (refine gs_d (fun hg => ?_) (fun hg => ?_) <;> conv => whnf) | (refine gs_n (fun hg => ?_) (fun hg => ?_) <;> conv => whnf) | (refine gs_nb (fun hg => ?_) (fun hg => ?_) <;> conv => whnf) | (refine gs_b (fun hg => ?_) (fun hg => ?_) <;> conv => whnf) | refine fin1 rfl rfl ?_))
          refine wl_lenM (hS9.len strTy) rfl rfl rfl rfl rfl rfl rfl rfl ?_
          refine run_l tabOk ?_
          conv => whnf
          (repeat' (first | (refine wl_add rfl rfl rfl rfl rfl rfl (by omega) (by omega) (run_l tabOk ?_); conv => whnf) | (refine wl_sub rfl rfl rfl rfl rfl rfl (by omega) (by omega) (run_l tabOk ?_); conv => whnf) | (refine wl_cvA tabOk rfl rfl rfl (by simp only [inK]; omega) rfl rfl rfl (run_l tabOk ?_); conv => whnf) | (refine wl_cvB tabOk rfl rfl rfl rfl rfl rfl (run_l tabOk ?_); conv => whnf) | (refine wl_rem rfl rfl rfl rfl rfl rfl (by omega) (by omega) (fun r hr hr0 hr1 hr2 => run_l tabOk ?_); conv => whnf) | (refine wl_quo rfl rfl rfl rfl rfl rfl (by omega) (by omega) (by simp only [inK]; omega) (run_l tabOk ?_); conv => whnf) | (refine wl_mul rfl rfl rfl rfl rfl rfl (by omega) (by omega) (run_l tabOk ?_); conv => whnf) | (refine gs_dt (by first | assumption | omega) ?_; conv => whnf) | (refine gs_df (by first | assumption | omega) ?_; conv => whnf) | (refine gs_t (by assumption) ?_; conv => whnf) | (refine gs_f (by assumption) ?_; conv => whnf) | (refine gs_d (fun hg => ?_) (fun hg => ?_) <;> conv => whnf) | (refine gs_n (fun hg => ?_) (fun hg => ?_) <;> conv => whnf) | (refine gs_nb (fun hg => ?_) (fun hg => ?_) <;> conv => whnf) | (refine gs_b (fun hg => ?_) (fun hg => ?_) <;> conv => whnf) | refine fin1 rfl rfl ?_))
          refine wl_mu (hS9.put strTy (by unfold maxLen; omega) (hks v hvn) ⟨by omega, by omega⟩ hnin) rfl rfl rfl rfl rfl rfl ?_
          rintro w10 ⟨hS10, hg10⟩
          have hr10 : w10.heap[gl]? = _ := (hg10.block gl (blk_lt hr9') (fun e => by injection e with e; exact hbg e.symm)).trans hr9'
          have hk10 := hk9.grown hg10 (fun g e => by injection e with e; subst e; exact .inl (by simp))
          refine run_l tabOk ?_
          conv => whnf
          (repeat' (first | (refine wl_Xn tabOk 3 1 rfl rfl rfl rfl rfl rfl rfl (by omega) (run_l tabOk ?_); conv => whnf) | (refine wl_add rfl rfl rfl rfl rfl rfl (by omega) (by omega) (run_l tabOk ?_); conv => whnf) | (refine wl_sub rfl rfl rfl rfl rfl rfl (by omega) (by omega) (run_l tabOk ?_); conv => whnf) | (refine wl_cvA tabOk rfl rfl rfl (by simp only [inK]; omega) rfl rfl rfl (run_l tabOk ?_); conv => whnf) | (refine wl_cvB tabOk rfl rfl rfl rfl rfl rfl (run_l tabOk ?_); conv => whnf) | (refine wl_rem rfl rfl rfl rfl rfl rfl (by omega) (by omega) (fun r hr hr0 hr1 hr2 => run_l tabOk ?_); conv => whnf) | (refine wl_quo rfl rfl rfl rfl rfl rfl (by omega) (by omega) (by simp only [inK]; omega) (run_l tabOk ?_); conv => whnf) | (refine wl_mul rfl rfl rfl rfl rfl rfl (by omega) (by omega) (run_l tabOk ?_); conv => whnf) | (refine gs_dt (by first | assumption | omega) ?_; conv => whnf) | (refine gs_df (by first | assumption | omega) ?_; conv => whnf) | (refine gs_t (by assumption) ?_; conv => whnf) | (refine gs_f (by assumption) ?_; conv => whnf) | (refine gs_d (fun hg => ?_) (fun hg => ?_) <;> conv => whnf) | (refine gs_n (fun hg => ?_) (fun hg => ?_) <;> conv => whnf) | (refine gs_nb (fun hg => ?_) (fun hg => ?_) <;> conv => whnf) | (refine gs_b (fun hg => ?_) (fun hg => ?_) <;> conv => whnf) | refine fin1 rfl rfl ?_))
          refine wl_Se (j := v * 1) (v := .int .i64 (L.length : Int)) tabOk hr10 rfl rfl rfl rfl rfl rfl (by rw [fZ_len]; omega) rfl rfl ?_
          intro w11 hp11
          rw [Nat.mul_one, fZ_set] at hp11
          have hs2 : setF (setF hl v (-1)) v (L.length : Int) = setF hl v (L.length : Int) := by
            funext q
            unfold setF
            split <;> rfl
          rw [hs2] at hp11
          refine run_l tabOk ?_
          conv => whnf
          (repeat' (first | (refine wl_add rfl rfl rfl rfl rfl rfl (by omega) (by omega) (run_l tabOk ?_); conv => whnf) | (refine wl_sub rfl rfl rfl rfl rfl rfl (by omega) (by omega) (run_l tabOk ?_); conv => whnf) | (refine wl_cvA tabOk rfl rfl rfl (by simp only [inK]; omega) rfl rfl rfl (run_l tabOk ?_); conv => whnf) | (refine wl_cvB tabOk rfl rfl rfl rfl rfl rfl (run_l tabOk ?_); conv => whnf) | (refine wl_rem rfl rfl rfl rfl rfl rfl (by omega) (by omega) (fun r hr hr0 hr1 hr2 => run_l tabOk ?_); conv => whnf) | (refine wl_quo rfl rfl rfl rfl rfl rfl (by omega) (by omega) (by simp only [inK]; omega) (run_l tabOk ?_); conv => whnf) | (refine wl_mul rfl rfl rfl rfl rfl rfl (by omega) (by omega) (run_l tabOk ?_); conv => whnf) | (refine gs_dt (by first | assumption | omega) ?_; conv => whnf) | (refine gs_df (by first | assumption | omega) ?_; conv => whnf) | (refine gs_t (by assumption) ?_; conv => whnf) | (refine gs_f (by assumption) ?_; conv => whnf) | (refine gs_d (fun hg => ?_) (fun hg => ?_) <;> conv => whnf) | (refine gs_n (fun hg => ?_) (fun hg => ?_) <;> conv => whnf) | (refine gs_nb (fun hg => ?_) (fun hg => ?_) <;> conv => whnf) | (refine gs_b (fun hg => ?_) (fun hg => ?_) <;> conv => whnf) | refine fin1 rfl rfl ?_))
          exact ⟨v + 1, ⟨rfl, rfl, rfl, rfl, rfl, trivial⟩, ⟨by omega, _, _, n + 1, by omega, hk10.put hp11 (.inl (by simp)), hp11.blk, hS10.kept hp11.grown (fun e => by injection e with e; exact hbg e), hI.new hzv hnin⟩, by omega⟩
    · have hvn2 : v = vars := by omega
      rw [hvn2] at hI
      conv => whnf
      (repeat' (first | (refine wl_add rfl rfl rfl rfl rfl rfl (by omega) (by omega) (run_l tabOk ?_); conv => whnf) | (refine wl_sub rfl rfl rfl rfl rfl rfl (by omega) (by omega) (run_l tabOk ?_); conv => whnf) | (refine wl_cvA tabOk rfl rfl rfl (by simp only [inK]; omega) rfl rfl rfl (run_l tabOk ?_); conv => whnf) | (refine wl_cvB tabOk rfl rfl rfl rfl rfl rfl (run_l tabOk ?_); conv => whnf) | (refine wl_rem rfl rfl rfl rfl rfl rfl (by omega) (by omega) (fun r hr hr0 hr1 hr2 => run_l tabOk ?_); conv => whnf) | (refine wl_quo rfl rfl rfl rfl rfl rfl (by omega) (by omega) (by simp only [inK]; omega) (run_l tabOk ?_); conv => whnf) | (refine wl_mul rfl rfl rfl rfl rfl rfl (by omega) (by omega) (run_l tabOk ?_); conv => whnf) | (refine gs_dt (by first | assumption | omega) ?_; conv => whnf) | (refine gs_df (by first | assumption | omega) ?_; conv => whnf) | (refine gs_t (by assumption) ?_; conv => whnf) | (refine gs_f (by assumption) ?_; conv => whnf) | (refine gs_d (fun hg => ?_) (fun hg => ?_) <;> conv => whnf) | (refine gs_n (fun hg => ?_) (fun hg => ?_) <;> conv => whnf) | (refine gs_nb (fun hg => ?_) (fun hg => ?_) <;> conv => whnf) | (refine gs_b (fun hg => ?_) (fun hg => ?_) <;> conv => whnf) | refine fin1 rfl rfl ?_))
      exact ⟨rfl, (), ⟨rfl, trivial⟩, hl, L, hkj, hrj, hI⟩
  · rintro _ G wj ⟨hl, L, hkj, hrj, hI⟩
    conv => whnf
    (repeat' (first | (refine wl_add rfl rfl rfl rfl rfl rfl (by omega) (by omega) (run_l tabOk ?_); conv => whnf) | (refine wl_sub rfl rfl rfl rfl rfl rfl (by omega) (by omega) (run_l tabOk ?_); conv => whnf) | (refine wl_cvA tabOk rfl rfl rfl (by simp only [inK]; omega) rfl rfl rfl (run_l tabOk ?_); conv => whnf) | (refine wl_cvB tabOk rfl rfl rfl rfl rfl rfl (run_l tabOk ?_); conv => whnf) | (refine wl_rem rfl rfl rfl rfl rfl rfl (by omega) (by omega) (fun r hr hr0 hr1 hr2 => run_l tabOk ?_); conv => whnf) | (refine wl_quo rfl rfl rfl rfl rfl rfl (by omega) (by omega) (by simp only [inK]; omega) (run_l tabOk ?_); conv => whnf) | (refine wl_mul rfl rfl rfl rfl rfl rfl (by omega) (by omega) (run_l tabOk ?_); conv => whnf) | (refine gs_dt (by first | assumption | omega) ?_; conv => whnf) | (refine gs_df (by first | assumption | omega) ?_; conv => whnf) | (refine gs_t (by assumption) ?_; conv => whnf) | (refine gs_f (by assumption) ?_; conv => whnf) | (refine gs_d (fun hg => ?_) (fun hg => ?_) <;> conv => whnf) | (refine gs_n (fun hg => ?_) (fun hg => ?_) <;> conv => whnf) | (refine gs_nb (fun hg => ?_) (fun hg => ?_) <;> conv => whnf) | (refine gs_b (fun hg => ?_) (fun hg => ?_) <;> conv => whnf) | refine fin1 rfl rfl ?_))
    have hZZ : ∀ a b, a < vars → b < vars → (∀ j, GS vars nc into bases lo a j ↔ GS vars nc into bases lo b j) → (Z a ↔ Z b) := fun a b _ _ h => by
      rw [hZ]
      exact forall_congr' fun j => not_congr (h j)
    have hZ2 : ∀ a b, Z a → Z b → ∀ j, GS vars nc into bases lo a j ↔ GS vars nc into bases lo b j := fun a b ha hb j => by
      rw [hZ] at ha hb
      exact ⟨fun h => absurd h (ha j), fun h => absurd h (hb j)⟩
    have hcan := hI.done hke hZZ hZ2
    rw [hZ] at hcan
    refine ⟨gl, hl, rfl, hrj, hcan, hkj.below (bup hB05 hB6) (bup hB05 hB6).size (fun k hk => ?_)⟩
    simp at hk
    rcases hk with rfl | rfl
    · exact hgl.1
    · exact hgl.2.1
end Go.Proofs.Ytjggjhgbobmkhaa

/- The example of the document's chapter on sources. -/
namespace Go.Proofs.Ytjggjhgbobmkhaa
open Go.RowKit
set_option linter.unusedVariables false
set_option linter.unusedSimpArgs false
set_option maxRecDepth 100000
def hInto : List (List Int) := [[], [0], [], [], [], [], [], [], [], []]
def hBases : List (List Int) := [[0], [1], [1, 0], [], []]
def hLo : List Bool := [false, false, false, true, true, true, true, true, true, true]
theorem h_ed {u v : Nat} (h : Ed hInto u v) : u = 1 ∧ v = 0 := by
  obtain ⟨k, h1, h2, h3, h4⟩ := h
  have h1 : u < 10 := h1
  have : u = 0 ∨ u = 1 ∨ u = 2 ∨ u = 3 ∨ u = 4 ∨ u = 5 ∨ u = 6 ∨ u = 7 ∨ u = 8 ∨ u = 9 := by omega
  rcases this with rfl | rfl | rfl | rfl | rfl | rfl | rfl | rfl | rfl | rfl
  · exact absurd h3 (Nat.not_lt_zero k)
  · have hk : k = 0 := by have : k < 1 := h3; omega
    subst hk
    have : (0 : Int) = (v : Int) := h4
    exact ⟨rfl, by omega⟩
  all_goals exact absurd h3 (Nat.not_lt_zero k)
theorem h_rg {u v : Nat} (h : Rg hInto u v) : v = u ∨ (u = 1 ∧ v = 0) := by
  cases h with
  | refl => exact .inl rfl
  | step e r =>
    obtain ⟨rfl, rfl⟩ := h_ed e
    cases r with
    | refl => exact .inr ⟨rfl, rfl⟩
    | step e r => have := h_ed e; omega
theorem h_gs0 (j : Nat) : GS 5 2 hInto hBases hLo 0 j ↔ j = 0 := by
  constructor
  · rintro ⟨u, h1, h2⟩
    have hu : u = 0 := by rcases h_rg h1 with h | h <;> omega
    subst hu
    rcases h2 with ⟨_, h2⟩ | ⟨h2, _⟩
    · have h2 : (j : Int) ∈ [(0 : Int)] := h2
      simp at h2
      exact h2
    · cases h2
  · rintro rfl
    exact ⟨0, .refl 0, .inl ⟨by omega, by decide⟩⟩
theorem h_gs1 (j : Nat) : GS 5 2 hInto hBases hLo 1 j ↔ j = 0 ∨ j = 1 := by
  constructor
  · rintro ⟨u, h1, h2⟩
    rcases h_rg h1 with rfl | ⟨_, rfl⟩
    · rcases h2 with ⟨_, h2⟩ | ⟨h2, _⟩
      · have h2 : (j : Int) ∈ [(1 : Int)] := h2
        simp at h2
        omega
      · cases h2
    · rcases h2 with ⟨_, h2⟩ | ⟨h2, _⟩
      · have h2 : (j : Int) ∈ [(0 : Int)] := h2
        simp at h2
        omega
      · cases h2
  · rintro (rfl | rfl)
    · exact ⟨0, .one ⟨0, by decide, by decide, by decide, by decide⟩, .inl ⟨by omega, by decide⟩⟩
    · exact ⟨1, .refl 1, .inl ⟨by omega, by decide⟩⟩
theorem h_gs2 (j : Nat) : GS 5 2 hInto hBases hLo 2 j ↔ j = 0 ∨ j = 1 := by
  constructor
  · rintro ⟨u, h1, h2⟩
    have hu : u = 2 := by rcases h_rg h1 with h | h <;> omega
    subst hu
    rcases h2 with ⟨_, h2⟩ | ⟨h2, _⟩
    · have h2 : (j : Int) ∈ [(1 : Int), 0] := h2
      simp at h2
      omega
    · cases h2
  · rintro (rfl | rfl)
    · exact ⟨2, .refl 2, .inl ⟨by omega, by decide⟩⟩
    · exact ⟨2, .refl 2, .inl ⟨by omega, by decide⟩⟩
def hCells : List Cell := [⟨false, 3, []⟩, ⟨false, 4, []⟩]
def hCons : List Con := [⟨1, 0, 0, []⟩, ⟨2, 1, 0, []⟩, ⟨1, 1, 1, []⟩, ⟨1, 2, 1, []⟩, ⟨1, 2, 0, []⟩]
theorem aw18 {hl : Nat → Int} (h : Canon 5 hl (fun v u => ∀ j, GS 5 2 hInto hBases hLo v j ↔ GS 5 2 hInto hBases hLo u j) (fun v => ∀ j, ¬ GS 5 2 hInto hBases hLo v j)) : hl 1 = hl 2 ∧ hl 0 ≠ hl 1 := by
  refine ⟨(h.same 1 2 (by omega) (by omega)).2 fun j => by rw [h_gs1, h_gs2], fun e => ?_⟩
  have := (h.same 0 1 (by omega) (by omega)).1 e 1
  rw [h_gs0, h_gs1] at this
  omega
set_option maxHeartbeats 4000000 in
theorem awake18 (w : World) : Calls Try.prog 14 #[] w fun e w' => e = .returned (.bool true) ∧ Below w.heap.size w w' := by
  refine enterR (args := []) tabOk Try.func14 rfl Try.ntmps14 rfl ?_; conv => whnf
  refine wl_bs tabOk 44 3 rfl rfl rfl rfl rfl rfl rfl rfl rfl rfl ?_
  intro g1 w1 hn1
  refine run_l tabOk ?_
  conv => whnf
  refine wl_bs tabOk 46 4 rfl rfl rfl rfl rfl rfl rfl rfl rfl rfl ?_
  intro g2 w2 hn2
  refine run_l tabOk ?_
  conv => whnf
  refine wl_alloc tabOk rfl rfl rfl rfl rfl rfl ?_
  intro g3 w3 hn3
  refine run_l tabOk ?_
  conv => whnf
  refine wl_Sa tabOk hn3.blk rfl rfl rfl rfl rfl (by simp [Value.oneCell']) rfl rfl ?_
  intro w4 hp4
  refine run_l tabOk ?_
  conv => whnf
  have q1 := hn1.at_
  have q2 := hn2.at_
  have q3 := hn3.at_
  have q1s := hn1.size
  have q2s := hn2.size
  have q3s := hn3.size
  have hb1 := hp4.old (hn3.old (hn2.old hn1.blk)) (by omega)
  have hb2 := hp4.old (hn3.old hn2.blk) (by omega)
  have hb3 := hp4.blk
  have hB4 : Below w.heap.size w w4 := hp4.below (hn3.up (hn2.up hn1.below)) (by omega) (by omega)
  (repeat' (first | (refine wl_Lag tabOk hb3 rfl rfl rfl rfl rfl rfl (run_l tabOk ?_); conv => whnf) | (refine wl_add rfl rfl rfl rfl rfl rfl (by omega) (by omega) (run_l tabOk ?_); conv => whnf) | (refine wl_sub rfl rfl rfl rfl rfl rfl (by omega) (by omega) (run_l tabOk ?_); conv => whnf) | (refine wl_cvA tabOk rfl rfl rfl (by simp only [inK]; omega) rfl rfl rfl (run_l tabOk ?_); conv => whnf) | (refine wl_cvB tabOk rfl rfl rfl rfl rfl rfl (run_l tabOk ?_); conv => whnf) | (refine wl_rem rfl rfl rfl rfl rfl rfl (by omega) (by omega) (fun r hr hr0 hr1 hr2 => run_l tabOk ?_); conv => whnf) | (refine wl_quo rfl rfl rfl rfl rfl rfl (by omega) (by omega) (by simp only [inK]; omega) (run_l tabOk ?_); conv => whnf) | (refine wl_mul rfl rfl rfl rfl rfl rfl (by omega) (by omega) (run_l tabOk ?_); conv => whnf) | (refine gs_dt (by first | assumption | omega) ?_; conv => whnf) | (refine gs_df (by first | assumption | omega) ?_; conv => whnf) | (refine gs_t (by assumption) ?_; conv => whnf) | (refine gs_f (by assumption) ?_; conv => whnf) | (refine gs_d (fun hg => ?_) (fun hg => ?_) <;> conv => whnf) | (refine gs_n (fun hg => ?_) (fun hg => ?_) <;> conv => whnf) | (refine gs_nb (fun hg => ?_) (fun hg => ?_) <;> conv => whnf) | (refine gs_b (fun hg => ?_) (fun hg => ?_) <;> conv => whnf) | refine fin1 rfl rfl ?_))
  have hxs : RCells w4 (some ⟨g1, 0, none⟩) hCells := row_of_blk hb1 ((Elems.one (d := dCell) rfl (dCell_nil _ false 3 (by decide) (by decide))).push (cs := [.bool false, .int .i64 4, .slice none 0 0]) rfl (dCell_nil _ false 4 (by decide) (by decide))) (by simp [hCells])
  have hys : RCons w4 (some ⟨g2, 0, none⟩) hCons := row_of_blk hb2 (((((Elems.one (d := dCon) rfl (dCon_nil _ 1 0 0 (by decide) (by decide) (by decide))).push (cs := [.int .u8 2, .int .i64 1, .int .i64 0, .slice none 0 0]) rfl (dCon_nil _ 2 1 0 (by decide) (by decide) (by decide))).push (cs := [.int .u8 1, .int .i64 1, .int .i64 1, .slice none 0 0]) rfl (dCon_nil _ 1 1 1 (by decide) (by decide) (by decide))).push (cs := [.int .u8 1, .int .i64 2, .int .i64 1, .slice none 0 0]) rfl (dCon_nil _ 1 2 1 (by decide) (by decide) (by decide))).push (cs := [.int .u8 1, .int .i64 2, .int .i64 0, .slice none 0 0]) rfl (dCon_nil _ 1 2 0 (by decide) (by decide) (by decide))) (by simp [hCons])
  have hr : rightB ⟨(5 : Nat), hCells, hCons⟩ = true := by decide
  refine wl_C fn17 (graphOfR 5 hCells hCons (some ⟨g1, 0, none⟩) (some ⟨g2, 0, none⟩) 2 5 w4 hxs hys hr) rfl rfl rfl rfl rfl rfl rfl ?_
  rintro _ w5 ⟨A, B, C, rfl, k1, k2, k3, hB5⟩
  have hG := gok hr
  have e1 : (gfold ⟨(5 : Nat), hCells, hCons⟩).1 = hInto := by decide
  have e2 : (gfold ⟨(5 : Nat), hCells, hCons⟩).2 = hBases := by decide
  have e3 : looseB ⟨(5 : Nat), hCells, hCons⟩ ++ List.replicate 5 true = hLo := by decide
  rw [e1] at k1 hG
  rw [e2] at k2 hG
  rw [e3] at k3 hG
  refine ⟨_, rfl, run_l tabOk ?_⟩
  conv => whnf
  refine wl_C fn16 (huLabels 5 2 hInto hBases hLo A B C (2 * 5) 5 (2 * 5) w5 hG (by omega) (fun v hv => by
    have : v = 0 ∨ v = 1 ∨ v = 2 ∨ v = 3 ∨ v = 4 := by omega
    rcases this with rfl | rfl | rfl | rfl | rfl <;> decide) k1 k2 k3) rfl rfl rfl rfl rfl rfl rfl ?_
  rintro _ w6 ⟨go, hl, rfl, hrow, hcan, hB6⟩
  have rdl : ∀ j, j < 5 → w6.cell? ((⟨go, 0, none⟩ : Addr).add (j * 1)) = some (.int .i64 (hl j)) := fun j hj => by
    rw [Nat.mul_one, add_zero]
    exact cell_blk hrow (by simpa using fZ_get hj)
  obtain ⟨h12, h01⟩ := aw18 hcan
  have c0 : w6.cell? ((⟨go, 0, none⟩ : Addr).add ((0 : Int).toNat * 1)) = _ := rdl 0 (by omega)
  have c1 : w6.cell? ((⟨go, 0, none⟩ : Addr).add ((1 : Int).toNat * 1)) = _ := rdl 1 (by omega)
  have c2 : w6.cell? ((⟨go, 0, none⟩ : Addr).add ((2 : Int).toNat * 1)) = _ := rdl 2 (by omega)
  clear rdl hcan hrow
  generalize hl 0 = l0 at *
  generalize hl 1 = l1 at *
  generalize hl 2 = l2 at *
  refine ⟨_, rfl, run_l tabOk ?_⟩
  conv => whnf
  (repeat' (first | (refine wl_add rfl rfl rfl rfl rfl rfl (by omega) (by omega) (run_l tabOk ?_); conv => whnf) | (refine wl_sub rfl rfl rfl rfl rfl rfl (by omega) (by omega) (run_l tabOk ?_); conv => whnf) | (refine wl_cvA tabOk rfl rfl rfl (by simp only [inK]; omega) rfl rfl rfl (run_l tabOk ?_); conv => whnf) | (refine wl_cvB tabOk rfl rfl rfl rfl rfl rfl (run_l tabOk ?_); conv => whnf) | (refine wl_rem rfl rfl rfl rfl rfl rfl (by omega) (by omega) (fun r hr hr0 hr1 hr2 => run_l tabOk ?_); conv => whnf) | (refine wl_quo rfl rfl rfl rfl rfl rfl (by omega) (by omega) (by simp only [inK]; omega) (run_l tabOk ?_); conv => whnf) | (refine wl_mul rfl rfl rfl rfl rfl rfl (by omega) (by omega) (run_l tabOk ?_); conv => whnf) | (refine gs_dt (by first | assumption | omega) ?_; conv => whnf) | (refine gs_df (by first | assumption | omega) ?_; conv => whnf) | (refine gs_t (by assumption) ?_; conv => whnf) | (refine gs_f (by assumption) ?_; conv => whnf) | (refine gs_d (fun hg => ?_) (fun hg => ?_) <;> conv => whnf) | (refine gs_n (fun hg => ?_) (fun hg => ?_) <;> conv => whnf) | (refine gs_nb (fun hg => ?_) (fun hg => ?_) <;> conv => whnf) | (refine gs_b (fun hg => ?_) (fun hg => ?_) <;> conv => whnf) | refine fin1 rfl rfl ?_))
  refine wc_qr tabOk mixed (by kernel_rfl) ?_; conv => whnf
  have n1 : (!decide (l0 = l1)) = true := by simp [h01]
  have n2 : decide (l0 ≠ l1) = true := by simp [h01]
  have n3 : decide (¬ l0 = l1) = true := by simp [h01]
  (repeat' (first | (refine wq_L tabOk rfl rfl rfl rfl rfl rfl c0 (run_q tabOk ?_); conv => whnf) | (refine wq_L tabOk rfl rfl rfl rfl rfl rfl c1 (run_q tabOk ?_); conv => whnf) | (refine wq_L tabOk rfl rfl rfl rfl rfl rfl c2 (run_q tabOk ?_); conv => whnf) | (refine wq_X tabOk 3 1 rfl rfl rfl rfl rfl rfl rfl (by omega) (by omega) (run_q tabOk ?_); conv => whnf) | (rw [n1]; (conv => whnf)) | (rw [n2]; (conv => whnf)) | (rw [n3]; (conv => whnf)) | (refine wq_add rfl rfl rfl rfl rfl rfl (by omega) (by omega) (run_q tabOk ?_); conv => whnf) | (refine wq_sub rfl rfl rfl rfl rfl rfl (by omega) (by omega) (run_q tabOk ?_); conv => whnf) | (refine wq_cvA tabOk rfl rfl rfl (by simp only [inK]; omega) rfl rfl rfl (run_q tabOk ?_); conv => whnf) | (refine wq_cvB tabOk rfl rfl rfl rfl rfl rfl (run_q tabOk ?_); conv => whnf) | (refine wq_rem rfl rfl rfl rfl rfl rfl (by omega) (by omega) (fun r hr hr0 hr1 hr2 => run_q tabOk ?_); conv => whnf) | (refine wq_quo rfl rfl rfl rfl rfl rfl (by omega) (by omega) (by simp only [inK]; omega) (run_q tabOk ?_); conv => whnf) | (refine wq_mul rfl rfl rfl rfl rfl rfl (by omega) (by omega) (run_q tabOk ?_); conv => whnf) | (refine gs_dt (by first | assumption | omega) ?_; conv => whnf) | (refine gs_df (by first | assumption | omega) ?_; conv => whnf) | (refine gs_t (by assumption) ?_; conv => whnf) | (refine gs_f (by assumption) ?_; conv => whnf) | (refine gs_d (fun hg => ?_) (fun hg => ?_) <;> conv => whnf) | (refine gs_n (fun hg => ?_) (fun hg => ?_) <;> conv => whnf) | (refine gs_nb (fun hg => ?_) (fun hg => ?_) <;> conv => whnf) | (refine gs_b (fun hg => ?_) (fun hg => ?_) <;> conv => whnf)))
  intro w7 hB7
  conv => whnf
  (repeat' (first | (refine wl_add rfl rfl rfl rfl rfl rfl (by omega) (by omega) (run_l tabOk ?_); conv => whnf) | (refine wl_sub rfl rfl rfl rfl rfl rfl (by omega) (by omega) (run_l tabOk ?_); conv => whnf) | (refine wl_cvA tabOk rfl rfl rfl (by simp only [inK]; omega) rfl rfl rfl (run_l tabOk ?_); conv => whnf) | (refine wl_cvB tabOk rfl rfl rfl rfl rfl rfl (run_l tabOk ?_); conv => whnf) | (refine wl_rem rfl rfl rfl rfl rfl rfl (by omega) (by omega) (fun r hr hr0 hr1 hr2 => run_l tabOk ?_); conv => whnf) | (refine wl_quo rfl rfl rfl rfl rfl rfl (by omega) (by omega) (by simp only [inK]; omega) (run_l tabOk ?_); conv => whnf) | (refine wl_mul rfl rfl rfl rfl rfl rfl (by omega) (by omega) (run_l tabOk ?_); conv => whnf) | (refine gs_dt (by first | assumption | omega) ?_; conv => whnf) | (refine gs_df (by first | assumption | omega) ?_; conv => whnf) | (refine gs_t (by assumption) ?_; conv => whnf) | (refine gs_f (by assumption) ?_; conv => whnf) | (refine gs_d (fun hg => ?_) (fun hg => ?_) <;> conv => whnf) | (refine gs_n (fun hg => ?_) (fun hg => ?_) <;> conv => whnf) | (refine gs_nb (fun hg => ?_) (fun hg => ?_) <;> conv => whnf) | (refine gs_b (fun hg => ?_) (fun hg => ?_) <;> conv => whnf) | refine fin1 rfl rfl ?_))
  exact ⟨rfl, bup (bup hB4 hB5) (bup hB6 hB7)⟩
end Go.Proofs.Ytjggjhgbobmkhaa

/- The reference's None and SameBools. -/
namespace Go.Proofs.Ytjggjhgbobmkhaa
open Go.RowKit
set_option linter.unusedVariables false
set_option linter.unusedSimpArgs false
set_option maxRecDepth 100000
theorem boolE {w : World} {A : Option Addr} {xs : List Bool} (h : RowR 1 dB w A xs) (i : Nat) (hi : i < xs.length) : ∃ x ad, xs[i]! = x ∧ A = some ad ∧ w.cell? (ad.add (i * 1)) = some (.bool x) := by
  obtain ⟨ad, cs, e, l, hc, hd⟩ := row_at h i hi
  have hd : cs = [.bool xs[i]!] := hd
  subst hd
  exact ⟨_, ad, rfl, e, hc.1⟩
theorem refNone (xs : List Bool) (A : Option Addr) (c : Nat) (w : World) (h : RowR 1 dB w A xs) :
    Calls Try.prog 19 #[.slice A xs.length c] w fun e w' => e = .returned (.bool (decide (∀ j, j < xs.length → xs[j]! = false))) ∧ Below w.heap.size w w' := by
  have hm := h.1
  refine enterR (args := [.slice A xs.length c]) tabOk Try.func19 rfl Try.ntmps19 rfl ?_; conv => whnf
  refine lp_loop tabOk (X := Nat) (fun i => [(0, .slice A xs.length c), (3, .int .i64 (i : Int))])
    (fun i wr => i ≤ xs.length ∧ (∀ j, j < i → xs[j]! = false) ∧ wr = w) (fun i => xs.length - i) 0 ⟨rfl, rfl, trivial⟩ ⟨by omega, by omega, rfl⟩ ?_
  rintro i G wr ⟨hi, hok, rfl⟩
  by_cases hlt : i < xs.length
  · obtain ⟨x, ad, hx, rfl, f0⟩ := boolE h i hlt
    cases x with
    | true =>
      conv => whnf
      (repeat' (first | (refine wl_L tabOk rfl rfl rfl rfl rfl rfl f0 (run_l tabOk ?_); conv => whnf) | (refine wl_Xn tabOk 4 1 rfl rfl rfl rfl rfl rfl rfl (by omega) (run_l tabOk ?_); conv => whnf) | (refine wl_add rfl rfl rfl rfl rfl rfl (by omega) (by omega) (run_l tabOk ?_); conv => whnf) | (refine wl_sub rfl rfl rfl rfl rfl rfl (by omega) (by omega) (run_l tabOk ?_); conv => whnf) | (refine wl_cvA tabOk rfl rfl rfl (by simp only [inK]; omega) rfl rfl rfl (run_l tabOk ?_); conv => whnf) | (refine wl_cvB tabOk rfl rfl rfl rfl rfl rfl (run_l tabOk ?_); conv => whnf) | (refine wl_rem rfl rfl rfl rfl rfl rfl (by omega) (by omega) (fun r hr hr0 hr1 hr2 => run_l tabOk ?_); conv => whnf) | (refine wl_quo rfl rfl rfl rfl rfl rfl (by omega) (by omega) (by simp only [inK]; omega) (run_l tabOk ?_); conv => whnf) | (refine wl_mul rfl rfl rfl rfl rfl rfl (by omega) (by omega) (run_l tabOk ?_); conv => whnf) | (refine gs_dt (by first | assumption | omega) ?_; conv => whnf) | (refine gs_df (by first | assumption | omega) ?_; conv => whnf) | (refine gs_t (by assumption) ?_; conv => whnf) | (refine gs_f (by assumption) ?_; conv => whnf) | (refine gs_d (fun hg => ?_) (fun hg => ?_) <;> conv => whnf) | (refine gs_n (fun hg => ?_) (fun hg => ?_) <;> conv => whnf) | (refine gs_nb (fun hg => ?_) (fun hg => ?_) <;> conv => whnf) | (refine gs_b (fun hg => ?_) (fun hg => ?_) <;> conv => whnf) | refine fin1 rfl rfl ?_))
      exact ⟨by rw [decide_eq_false (fun hh => by have := hh i hlt; rw [hx] at this; cases this)], Below.refl _ _⟩
    | false =>
      conv => whnf
      (repeat' (first | (refine wl_L tabOk rfl rfl rfl rfl rfl rfl f0 (run_l tabOk ?_); conv => whnf) | (refine wl_Xn tabOk 4 1 rfl rfl rfl rfl rfl rfl rfl (by omega) (run_l tabOk ?_); conv => whnf) | (refine wl_add rfl rfl rfl rfl rfl rfl (by omega) (by omega) (run_l tabOk ?_); conv => whnf) | (refine wl_sub rfl rfl rfl rfl rfl rfl (by omega) (by omega) (run_l tabOk ?_); conv => whnf) | (refine wl_cvA tabOk rfl rfl rfl (by simp only [inK]; omega) rfl rfl rfl (run_l tabOk ?_); conv => whnf) | (refine wl_cvB tabOk rfl rfl rfl rfl rfl rfl (run_l tabOk ?_); conv => whnf) | (refine wl_rem rfl rfl rfl rfl rfl rfl (by omega) (by omega) (fun r hr hr0 hr1 hr2 => run_l tabOk ?_); conv => whnf) | (refine wl_quo rfl rfl rfl rfl rfl rfl (by omega) (by omega) (by simp only [inK]; omega) (run_l tabOk ?_); conv => whnf) | (refine wl_mul rfl rfl rfl rfl rfl rfl (by omega) (by omega) (run_l tabOk ?_); conv => whnf) | (refine gs_dt (by first | assumption | omega) ?_; conv => whnf) | (refine gs_df (by first | assumption | omega) ?_; conv => whnf) | (refine gs_t (by assumption) ?_; conv => whnf) | (refine gs_f (by assumption) ?_; conv => whnf) | (refine gs_d (fun hg => ?_) (fun hg => ?_) <;> conv => whnf) | (refine gs_n (fun hg => ?_) (fun hg => ?_) <;> conv => whnf) | (refine gs_nb (fun hg => ?_) (fun hg => ?_) <;> conv => whnf) | (refine gs_b (fun hg => ?_) (fun hg => ?_) <;> conv => whnf) | refine fin1 rfl rfl ?_))
      exact ⟨i + 1, ⟨rfl, rfl, trivial⟩, ⟨by omega, fun j hj => by
        by_cases e : j = i
        · rw [e, hx]
        · exact hok j (by omega), rfl⟩, by omega⟩
  · conv => whnf
    (repeat' (first | (refine wl_add rfl rfl rfl rfl rfl rfl (by omega) (by omega) (run_l tabOk ?_); conv => whnf) | (refine wl_sub rfl rfl rfl rfl rfl rfl (by omega) (by omega) (run_l tabOk ?_); conv => whnf) | (refine wl_cvA tabOk rfl rfl rfl (by simp only [inK]; omega) rfl rfl rfl (run_l tabOk ?_); conv => whnf) | (refine wl_cvB tabOk rfl rfl rfl rfl rfl rfl (run_l tabOk ?_); conv => whnf) | (refine wl_rem rfl rfl rfl rfl rfl rfl (by omega) (by omega) (fun r hr hr0 hr1 hr2 => run_l tabOk ?_); conv => whnf) | (refine wl_quo rfl rfl rfl rfl rfl rfl (by omega) (by omega) (by simp only [inK]; omega) (run_l tabOk ?_); conv => whnf) | (refine wl_mul rfl rfl rfl rfl rfl rfl (by omega) (by omega) (run_l tabOk ?_); conv => whnf) | (refine gs_dt (by first | assumption | omega) ?_; conv => whnf) | (refine gs_df (by first | assumption | omega) ?_; conv => whnf) | (refine gs_t (by assumption) ?_; conv => whnf) | (refine gs_f (by assumption) ?_; conv => whnf) | (refine gs_d (fun hg => ?_) (fun hg => ?_) <;> conv => whnf) | (refine gs_n (fun hg => ?_) (fun hg => ?_) <;> conv => whnf) | (refine gs_nb (fun hg => ?_) (fun hg => ?_) <;> conv => whnf) | (refine gs_b (fun hg => ?_) (fun hg => ?_) <;> conv => whnf) | refine fin1 rfl rfl ?_))
    exact ⟨by rw [decide_eq_true (fun j hj => hok j (by omega))], Below.refl _ _⟩
theorem eqB_at {xs ys : List Bool} {i : Nat} (hi : i < xs.length) (hl : xs.length = ys.length) (h : xs[i]! ≠ ys[i]!) : decide (xs = ys) = false := decide_eq_false fun e => h (by rw [e])
theorem eqB_all {xs ys : List Bool} (hl : xs.length = ys.length) (h : ∀ j, j < xs.length → xs[j]! = ys[j]!) : decide (xs = ys) = true := decide_eq_true (List.ext_getElem hl fun i h1 h2 => by
  have := h i h1
  rwa [getElem!_pos xs i h1, getElem!_pos ys i h2] at this)
theorem refSameB (xs ys : List Bool) (A B : Option Addr) (c d : Nat) (w : World) (h1 : RowR 1 dB w A xs) (h2 : RowR 1 dB w B ys) (hl : xs.length = ys.length) :
    Calls Try.prog 20 #[.slice A xs.length c, .slice B ys.length d] w fun e w' => e = .returned (.bool (decide (xs = ys))) ∧ Below w.heap.size w w' := by
  have hm := h1.1
  refine enterR (args := [.slice A xs.length c, .slice B ys.length d]) tabOk Try.func20 rfl Try.ntmps20 rfl ?_; conv => whnf
  (repeat' (first | (refine wl_add rfl rfl rfl rfl rfl rfl (by omega) (by omega) (run_l tabOk ?_); conv => whnf) | (refine wl_sub rfl rfl rfl rfl rfl rfl (by omega) (by omega) (run_l tabOk ?_); conv => whnf) | (refine wl_cvA tabOk rfl rfl rfl (by simp only [inK]; omega) rfl rfl rfl (run_l tabOk ?_); conv => whnf) | (refine wl_cvB tabOk rfl rfl rfl rfl rfl rfl (run_l tabOk ?_); conv => whnf) | (refine wl_rem rfl rfl rfl rfl rfl rfl (by omega) (by omega) (fun r hr hr0 hr1 hr2 => run_l tabOk ?_); conv => whnf) | (refine wl_quo rfl rfl rfl rfl rfl rfl (by omega) (by omega) (by simp only [inK]; omega) (run_l tabOk ?_); conv => whnf) | (refine wl_mul rfl rfl rfl rfl rfl rfl (by omega) (by omega) (run_l tabOk ?_); conv => whnf) | (refine gs_dt (by first | assumption | omega) ?_; conv => whnf) | (refine gs_df (by first | assumption | omega) ?_; conv => whnf) | (refine gs_t (by assumption) ?_; conv => whnf) | (refine gs_f (by assumption) ?_; conv => whnf) | (refine gs_d (fun hg => ?_) (fun hg => ?_) <;> conv => whnf) | (refine gs_n (fun hg => ?_) (fun hg => ?_) <;> conv => whnf) | (refine gs_nb (fun hg => ?_) (fun hg => ?_) <;> conv => whnf) | (refine gs_b (fun hg => ?_) (fun hg => ?_) <;> conv => whnf) | refine fin1 rfl rfl ?_))
  refine lp_loop tabOk (X := Nat) (fun i => [(0, .slice A xs.length c), (1, .slice B ys.length d), (5, .int .i64 (i : Int))])
    (fun i wr => i ≤ xs.length ∧ (∀ j, j < i → xs[j]! = ys[j]!) ∧ Below w.heap.size w wr) (fun i => xs.length - i) 0 ⟨rfl, rfl, rfl, trivial⟩ ⟨by omega, by omega, Below.refl _ _⟩ ?_
  rintro i G wr ⟨hi, hok, hB⟩
  by_cases hlt : i < xs.length
  · obtain ⟨x, ad, hx, rfl, f0⟩ := boolE (h1.up stays_B hB) i hlt
    obtain ⟨y, ad2, hy, rfl, f1⟩ := boolE (h2.up stays_B hB) i (by omega)
    have hne : x ≠ y → decide (xs = ys) = false := fun e => eqB_at hlt hl (by rw [hx, hy]; exact e)
    have heq : x = y → ∀ j, j < i + 1 → xs[j]! = ys[j]! := fun e j hj => by
      by_cases e2 : j = i
      · rw [e2, hx, hy, e]
      · exact hok j (by omega)
    conv => whnf
    (repeat' (first | (refine wl_add rfl rfl rfl rfl rfl rfl (by omega) (by omega) (run_l tabOk ?_); conv => whnf) | (refine wl_sub rfl rfl rfl rfl rfl rfl (by omega) (by omega) (run_l tabOk ?_); conv => whnf) | (refine wl_cvA tabOk rfl rfl rfl (by simp only [inK]; omega) rfl rfl rfl (run_l tabOk ?_); conv => whnf) | (refine wl_cvB tabOk rfl rfl rfl rfl rfl rfl (run_l tabOk ?_); conv => whnf) | (refine wl_rem rfl rfl rfl rfl rfl rfl (by omega) (by omega) (fun r hr hr0 hr1 hr2 => run_l tabOk ?_); conv => whnf) | (refine wl_quo rfl rfl rfl rfl rfl rfl (by omega) (by omega) (by simp only [inK]; omega) (run_l tabOk ?_); conv => whnf) | (refine wl_mul rfl rfl rfl rfl rfl rfl (by omega) (by omega) (run_l tabOk ?_); conv => whnf) | (refine gs_dt (by first | assumption | omega) ?_; conv => whnf) | (refine gs_df (by first | assumption | omega) ?_; conv => whnf) | (refine gs_t (by assumption) ?_; conv => whnf) | (refine gs_f (by assumption) ?_; conv => whnf) | (refine gs_d (fun hg => ?_) (fun hg => ?_) <;> conv => whnf) | (refine gs_n (fun hg => ?_) (fun hg => ?_) <;> conv => whnf) | (refine gs_nb (fun hg => ?_) (fun hg => ?_) <;> conv => whnf) | (refine gs_b (fun hg => ?_) (fun hg => ?_) <;> conv => whnf) | refine fin1 rfl rfl ?_))
    refine wc_qr tabOk mixed (by kernel_rfl) ?_; conv => whnf
    (repeat' (first | (refine wq_L tabOk rfl rfl rfl rfl rfl rfl f0 (run_q tabOk ?_); conv => whnf) | (refine wq_L tabOk rfl rfl rfl rfl rfl rfl f1 (run_q tabOk ?_); conv => whnf) | (refine wq_Xn tabOk 4 1 rfl rfl rfl rfl rfl rfl rfl (by omega) (run_q tabOk ?_); conv => whnf) | (refine wq_add rfl rfl rfl rfl rfl rfl (by omega) (by omega) (run_q tabOk ?_); conv => whnf) | (refine wq_sub rfl rfl rfl rfl rfl rfl (by omega) (by omega) (run_q tabOk ?_); conv => whnf) | (refine wq_cvA tabOk rfl rfl rfl (by simp only [inK]; omega) rfl rfl rfl (run_q tabOk ?_); conv => whnf) | (refine wq_cvB tabOk rfl rfl rfl rfl rfl rfl (run_q tabOk ?_); conv => whnf) | (refine wq_rem rfl rfl rfl rfl rfl rfl (by omega) (by omega) (fun r hr hr0 hr1 hr2 => run_q tabOk ?_); conv => whnf) | (refine wq_quo rfl rfl rfl rfl rfl rfl (by omega) (by omega) (by simp only [inK]; omega) (run_q tabOk ?_); conv => whnf) | (refine wq_mul rfl rfl rfl rfl rfl rfl (by omega) (by omega) (run_q tabOk ?_); conv => whnf) | (refine gs_dt (by first | assumption | omega) ?_; conv => whnf) | (refine gs_df (by first | assumption | omega) ?_; conv => whnf) | (refine gs_t (by assumption) ?_; conv => whnf) | (refine gs_f (by assumption) ?_; conv => whnf) | (refine gs_d (fun hg => ?_) (fun hg => ?_) <;> conv => whnf) | (refine gs_n (fun hg => ?_) (fun hg => ?_) <;> conv => whnf) | (refine gs_nb (fun hg => ?_) (fun hg => ?_) <;> conv => whnf) | (refine gs_b (fun hg => ?_) (fun hg => ?_) <;> conv => whnf)))
    intro w2 hB2
    conv => whnf
    cases x <;> cases y
    all_goals (repeat' (first | (refine wl_add rfl rfl rfl rfl rfl rfl (by omega) (by omega) (run_l tabOk ?_); conv => whnf) | (refine wl_sub rfl rfl rfl rfl rfl rfl (by omega) (by omega) (run_l tabOk ?_); conv => whnf) | (refine wl_cvA tabOk rfl rfl rfl (by simp only [inK]; omega) rfl rfl rfl (run_l tabOk ?_); conv => whnf) | (refine wl_cvB tabOk rfl rfl rfl rfl rfl rfl (run_l tabOk ?_); conv => whnf) | (refine wl_rem rfl rfl rfl rfl rfl rfl (by omega) (by omega) (fun r hr hr0 hr1 hr2 => run_l tabOk ?_); conv => whnf) | (refine wl_quo rfl rfl rfl rfl rfl rfl (by omega) (by omega) (by simp only [inK]; omega) (run_l tabOk ?_); conv => whnf) | (refine wl_mul rfl rfl rfl rfl rfl rfl (by omega) (by omega) (run_l tabOk ?_); conv => whnf) | (refine gs_dt (by first | assumption | omega) ?_; conv => whnf) | (refine gs_df (by first | assumption | omega) ?_; conv => whnf) | (refine gs_t (by assumption) ?_; conv => whnf) | (refine gs_f (by assumption) ?_; conv => whnf) | (refine gs_d (fun hg => ?_) (fun hg => ?_) <;> conv => whnf) | (refine gs_n (fun hg => ?_) (fun hg => ?_) <;> conv => whnf) | (refine gs_nb (fun hg => ?_) (fun hg => ?_) <;> conv => whnf) | (refine gs_b (fun hg => ?_) (fun hg => ?_) <;> conv => whnf) | refine fin1 rfl rfl ?_))
    all_goals first
      | exact ⟨by rw [hne (by simp)], bup hB hB2⟩
      | exact ⟨i + 1, ⟨rfl, rfl, rfl, trivial⟩, ⟨by omega, heq rfl, bup hB hB2⟩, by omega⟩
  · conv => whnf
    (repeat' (first | (refine wl_add rfl rfl rfl rfl rfl rfl (by omega) (by omega) (run_l tabOk ?_); conv => whnf) | (refine wl_sub rfl rfl rfl rfl rfl rfl (by omega) (by omega) (run_l tabOk ?_); conv => whnf) | (refine wl_cvA tabOk rfl rfl rfl (by simp only [inK]; omega) rfl rfl rfl (run_l tabOk ?_); conv => whnf) | (refine wl_cvB tabOk rfl rfl rfl rfl rfl rfl (run_l tabOk ?_); conv => whnf) | (refine wl_rem rfl rfl rfl rfl rfl rfl (by omega) (by omega) (fun r hr hr0 hr1 hr2 => run_l tabOk ?_); conv => whnf) | (refine wl_quo rfl rfl rfl rfl rfl rfl (by omega) (by omega) (by simp only [inK]; omega) (run_l tabOk ?_); conv => whnf) | (refine wl_mul rfl rfl rfl rfl rfl rfl (by omega) (by omega) (run_l tabOk ?_); conv => whnf) | (refine gs_dt (by first | assumption | omega) ?_; conv => whnf) | (refine gs_df (by first | assumption | omega) ?_; conv => whnf) | (refine gs_t (by assumption) ?_; conv => whnf) | (refine gs_f (by assumption) ?_; conv => whnf) | (refine gs_d (fun hg => ?_) (fun hg => ?_) <;> conv => whnf) | (refine gs_n (fun hg => ?_) (fun hg => ?_) <;> conv => whnf) | (refine gs_nb (fun hg => ?_) (fun hg => ?_) <;> conv => whnf) | (refine gs_b (fun hg => ?_) (fun hg => ?_) <;> conv => whnf) | refine fin1 rfl rfl ?_))
    exact ⟨by rw [eqB_all hl (fun j hj => hok j (by omega))]; simp [hl], hB⟩
end Go.Proofs.Ytjggjhgbobmkhaa

/- Labels and sources of a system that may be. -/
namespace Go.Proofs.Ytjggjhgbobmkhaa
open Go.RowKit
set_option linter.unusedVariables false
set_option linter.unusedSimpArgs false
theorem bases_small {n : Nat} {xs : List Cell} {ys : List Con} (hr : rightB ⟨n, xs, ys⟩ = true) : ∀ v, v < n → ((gBases n xs ys)[v]!).length ≤ 1048576 := by
  intro v hv
  simp only [rightB, bigOk, Bool.and_eq_true, decide_eq_true_eq, List.all_eq_true] at hr
  have h := (gfold_small (n : Int) (m := 0) ys (List.replicate (2 * (n : Int).toNat) [], List.replicate (n : Int).toNat []) (fun l hl => by rw [getElem!_pos _ l hl]; simp) (fun l hl => by rw [getElem!_pos _ l hl]; simp)).2 v (by simpa using hv)
  have h2 : ((gBases n xs ys)[v]!).length ≤ 0 + ys.length := h
  omega
theorem Canon.imp {n : Nat} {l : Nat → Int} {E E' : Nat → Nat → Prop} {Z Z' : Nat → Prop} (h : Canon n l E Z) (hE : ∀ v u, v < n → u < n → (E v u ↔ E' v u)) (hZ : ∀ v, v < n → (Z v ↔ Z' v)) : Canon n l E' Z' :=
  ⟨fun v hv => (h.none v hv).trans (hZ v hv), fun v u hv hu => (h.same v u hv hu).trans (hE v u hv hu), h.le⟩
abbrev SrcE (n nc : Nat) (s : Sys) (v u : Nat) : Prop := ∀ j, Src n nc s v j ↔ Src n nc s u j
abbrev SrcZ (n nc : Nat) (s : Sys) (v : Nat) : Prop := ∀ j, ¬ Src n nc s v j
section
variable {n : Nat} {xs : List Cell} {ys : List Con}
theorem right_few (hr : rightB ⟨n, xs, ys⟩ = true) : n ≤ 16384 ∧ xs.length ≤ 16384 ∧ ys.length ≤ 131072 := by
  simp only [rightB, bigOk, Bool.and_eq_true, decide_eq_true_eq, List.all_eq_true] at hr
  omega
theorem huLabelsR (A B C : Option Addr) (w : World) (hr : rightB ⟨n, xs, ys⟩ = true) (hA : RRows w A (gInto n xs ys)) (hB : RRows w B (gBases n xs ys)) (hC : RowR 1 dB w C (gLoose n xs ys)) :
    Calls Try.prog 16 #[.agg #[.int .i64 n, .slice A (2 * n) (2 * n), .slice B n n, .slice C (2 * n) (2 * n)], .int .i64 xs.length] w fun e w' => ∃ go hl, e = .returned (.slice (some ⟨go, 0, none⟩) n n) ∧ w'.heap[go]? = some (.cells (fZ n hl).toArray 3 (0, 0)) ∧
      Canon n hl (SrcE n xs.length ⟨n, xs, ys⟩) (SrcZ n xs.length ⟨n, xs, ys⟩) ∧ Below w.heap.size w w' := by
  have hG : GOk n (gInto n xs ys) (gBases n xs ys) (gLoose n xs ys) := gok hr
  have h := huLabels n xs.length (gInto n xs ys) (gBases n xs ys) (gLoose n xs ys) A B C (2 * n) n (2 * n) w hG (right_few hr).2.1 (bases_small hr) hA hB hC
  rw [hG.ni, hG.nb, hG.nl] at h
  refine h.mono ?_
  rintro e w' ⟨go, hl, he, hrow, hcan, hb⟩
  exact ⟨go, hl, he, hrow, hcan.imp (fun v u hv hu => forall_congr' fun j => by rw [gs_src hr hv, gs_src hr hu]) (fun v hv => forall_congr' fun j => by rw [gs_src hr hv]), hb⟩
theorem huSourcesR (A B C : Option Addr) (w : World) (hr : rightB ⟨n, xs, ys⟩ = true) (hA : RRows w A (gInto n xs ys)) (hB : RRows w B (gBases n xs ys)) (hC : RowR 1 dB w C (gLoose n xs ys)) :
    Calls Try.prog 21 #[.agg #[.int .i64 n, .slice A (2 * n) (2 * n), .slice B n n, .slice C (2 * n) (2 * n)], .int .i64 xs.length] w fun e w' => ∃ go f, e = .returned (.slice (some ⟨go, 0, none⟩) n n) ∧ w'.heap[go]? = some (.cells (pvs n f).toArray 50 (0, 0)) ∧
      (∀ v, v < n → ∃ g, f v = .pointer (some ⟨g, 0, none⟩) ∧ CS w.heap.size g w' (Src n xs.length ⟨n, xs, ys⟩ v)) ∧ Below w.heap.size w w' := by
  have hG : GOk n (gInto n xs ys) (gBases n xs ys) (gLoose n xs ys) := gok hr
  have h := huSources n xs.length (gInto n xs ys) (gBases n xs ys) (gLoose n xs ys) A B C (2 * n) n (2 * n) w hG (right_few hr).2.1 (bases_small hr) hA hB hC
  rw [hG.ni, hG.nb, hG.nl] at h
  refine h.mono ?_
  rintro e w' ⟨go, f, he, hrow, hs, hb⟩
  refine ⟨go, f, he, hrow, fun v hv => ?_, hb⟩
  obtain ⟨g, h1, h2⟩ := hs v hv
  exact ⟨g, h1, h2.imp fun j => gs_src hr hv⟩
end
section
variable {B g : Nat} {w : World} {P : Nat → Prop}
theorem csHas (h : CS B g w P) (k : Nat) (hk : k < 65536) {b : Bool} (hb : b = true ↔ P k) :
    Calls Try.prog 22 #[.pointer (some ⟨g, 0, none⟩), .int .i64 (k : Int)] w fun e w' => e = .returned (.bool b) ∧ Below w.heap.size w w' := by
  obtain ⟨bs, fp, hP, hm, hl⟩ := h.ex
  refine (pHas hP k (by omega) (by omega)).mono ?_
  rintro e w' ⟨he, hB⟩
  refine ⟨?_, hB⟩
  rw [he, decide_eq_true (by omega : (0 : Int) ≤ (k : Int)), Bool.true_and, Int.toNat_natCast]
  congr 2
  exact Bool.eq_iff_iff.2 ((hm k).trans hb.symm)
theorem csLen (h : CS B g w P) (C : Nat) (p : Nat → Bool) (hp : ∀ j, P j ↔ j < C ∧ p j = true) :
    Calls Try.prog 23 #[.pointer (some ⟨g, 0, none⟩)] w fun e w' => e = .returned (.int .i64 ((((List.range C).filter p).length : Nat) : Int)) ∧ Below w.heap.size w w' := by
  obtain ⟨bs, fp, hP, hm, hl⟩ := h.ex
  refine (pLen hP (by omega)).mono ?_
  rintro e w' ⟨he, hB⟩
  refine ⟨?_, hB⟩
  have hn : numsB bs = ((List.range C).filter p).map fun j : Nat => (j : Int) := by
    refine numsB_is hP.wf ?_ (fun x hx => ?_) fun m => ?_
    · rw [List.pairwise_map]
      exact (List.pairwise_lt_range.filter p).imp fun h => by omega
    · obtain ⟨j, _, rfl⟩ := List.mem_map.1 hx
      omega
    · refine Bool.eq_iff_iff.2 ?_
      rw [hm, hp, decide_eq_true_eq, List.mem_map]
      constructor
      · rintro ⟨h1, h2⟩
        exact ⟨m, List.mem_filter.2 ⟨List.mem_range.2 h1, h2⟩, rfl⟩
      · rintro ⟨j, hj, e⟩
        have hjm : j = m := by omega
        subst hjm
        have := List.mem_filter.1 hj
        exact ⟨List.mem_range.1 this.1, this.2⟩
  rw [he, hn, List.length_map]
end
theorem refNoneD {xs : List Bool} (A : Option Addr) (c : Nat) (w : World) (h : RowR 1 dB w A xs) {m : Nat} (hm : xs.length = m) {b : Bool} (hb : b = true ↔ ∀ j, j < xs.length → xs[j]! = false) :
    Calls Try.prog 19 #[.slice A m c] w fun e w' => e = .returned (.bool b) ∧ Below w.heap.size w w' := by
  subst hm
  refine (refNone xs A c w h).mono ?_
  rintro e w' ⟨h1, h2⟩
  exact ⟨by rw [h1, show decide (∀ j, j < xs.length → xs[j]! = false) = b from Bool.eq_iff_iff.2 (decide_eq_true_iff.trans hb.symm)], h2⟩
theorem refSameD {xs ys : List Bool} (A B : Option Addr) (c d : Nat) (w : World) (h1 : RowR 1 dB w A xs) (h2 : RowR 1 dB w B ys) {m : Nat} (hm : xs.length = m) (hm2 : ys.length = m) {b : Bool} (hb : b = true ↔ xs = ys) :
    Calls Try.prog 20 #[.slice A m c, .slice B m d] w fun e w' => e = .returned (.bool b) ∧ Below w.heap.size w w' := by
  subst hm
  have h := refSameB xs ys A B c d w h1 h2 hm2.symm
  rw [hm2] at h
  refine h.mono ?_
  rintro e w' ⟨h1, h2⟩
  exact ⟨by rw [h1, show decide (xs = ys) = b from Bool.eq_iff_iff.2 (decide_eq_true_iff.trans hb.symm)], h2⟩
theorem mg_rowH {n C : Nat} {M : Mat} (h : Shape n C M) {v u : Nat} (hv : v < n) (hu : u < n) (e : ∀ k, mg M v k = true ↔ mg M u k = true) : M[v]! = M[u]! := by
  have h1 := h.cols v hv
  have h2 := h.cols u hu
  refine List.ext_getElem (by omega) fun k h3 h4 => ?_
  have := e k
  unfold mg at this
  rw [getElem!_pos _ k h3, getElem!_pos _ k h4] at this
  exact Bool.eq_iff_iff.2 this
end Go.Proofs.Ytjggjhgbobmkhaa
