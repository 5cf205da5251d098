/- Several texts of one claim in one file: H04 H05 OF03 SV20 EX2 EX3. -/
import Derived.Test.YtkjbkalakafnlaaDoorZ8
import Derived.Test.YtkjbkalakafnlaaDoorZ9
import Derived.Test.YtkjbkalakafnlaaDoorZ7
import Derived.Test.YtkjbkalakafnlaaDoorZ6
import Derived.Test.YtkjbkalakafnlaaDoorZ5
/- math/bits.OnesCount64, TrailingZeros64; pile: Len, All. -/
namespace Go.Proofs.YtkjbkalakafnlaaDoor
open Go.RowKit
set_option linter.unusedVariables false
set_option linter.unusedSimpArgs false
set_option maxRecDepth 100000
theorem band (a b : Nat) (bi : Int) (hb : bi = (b : Int)) (h1 : a < 18446744073709551616) (h2 : b < 18446744073709551616) : bits .and .u64 (a : Int) bi = ((a &&& b : Nat) : Int) := by
  subst hb
  exact bits_and_u64_nat a b h1 h2
theorem addu {a b c : Nat} (hc : c = a + b) (h : c < 18446744073709551616) : IntKind.u64.wrap ((a : Int) + (b : Int)) = (c : Int) := by
  rw [IntKind.wrap_u64]; omega
theorem band_i64 (a b : Nat) (bi : Int) (hb : bi = (b : Int)) (h1 : a < 9223372036854775808) (h2 : b < 9223372036854775808) : bits .and .i64 (a : Int) bi = ((a &&& b : Nat) : Int) := by
  subst hb
  have hx : a &&& b < 2 ^ 63 := Nat.and_lt_two_pow _ (by omega)
  have e1 : (BitVec.ofInt 64 (a : Int)).toNat = a := by
    rw [BitVec.ofInt_natCast, BitVec.toNat_ofNat]; exact Nat.mod_eq_of_lt (by omega)
  have e2 : (BitVec.ofInt 64 (b : Int)).toNat = b := by
    rw [BitVec.ofInt_natCast, BitVec.toNat_ofNat]; exact Nat.mod_eq_of_lt (by omega)
  show IntKind.i64.wrap ((BitVec.ofInt 64 (a : Int) &&& BitVec.ofInt 64 (b : Int)).toNat : Int) = _
  rw [BitVec.toNat_and, e1, e2, IntKind.wrap_i64]
  omega
/-- The library's table, in its variable. -/
def Tab (w : World) : Prop := ∀ j, j < 64 → w.cell? ⟨1, j, none⟩ = some (.int .u8 ((Lib.deBruijn64tab.getD j 0 : Nat) : Int))
theorem Tab.up {w w1 : World} (h : Tab w) (hb : Below w.heap.size w w1) : Tab w1 := fun j hj => cell_up hb (h j hj)
theorem Tab.kept {rb : List Nat} {w w1 : World} (h : Tab w) (hk : Kept rb w w1) (h0 : 1 ∉ rb) : Tab w1 := fun j hj =>
  (World.cell?_of_block (hk.block _ (World.block_lt_of_cell? w _ (h j hj)) h0)).trans (h j hj)
theorem pTz (x : Nat) (hx : x < 18446744073709551616) (hx0 : x ≠ 0) (w : World) (hT : Tab w) :
    Calls Tryd.prog 64 #[.int .u64 (x : Int)] w fun e w' => e = .returned (.int .i64 (Lib.ctz 64 x : Nat)) ∧ Below w.heap.size w w' := by
  obtain ⟨hlow, hk⟩ := Lib.lowest_bit 64 x hx0 hx
  obtain ⟨hi, htab⟩ := Lib.deBruijn64_at _ hk
  have hcell := hT _ hi
  rw [htab] at hcell
  have hp : 2 ^ Lib.ctz 64 x < 18446744073709551616 := Nat.pow_lt_pow_right (a := 2) (by omega) hk
  generalize Lib.ctz 64 x = k at hlow hk hi hcell hp htab
  refine enterR (args := [.int .u64 (x : Int)]) tabOk Tryd.func64 rfl Tryd.ntmps64 rfl ?_; conv => whnf
  (repeat' (first | (refine wl_add rfl rfl rfl rfl rfl rfl (by omega) (by omega) (run_l tabOk ?_); conv => whnf) | (refine wl_sub rfl rfl rfl rfl rfl rfl (by omega) (by omega) (run_l tabOk ?_); conv => whnf) | (refine wl_cvA tabOk rfl rfl rfl (by simp only [inK]; omega) rfl rfl rfl (run_l tabOk ?_); conv => whnf) | (refine wl_cvB tabOk rfl rfl rfl rfl rfl rfl (run_l tabOk ?_); conv => whnf) | (refine wl_rem rfl rfl rfl rfl rfl rfl (by omega) (by omega) (fun r hr hr0 hr1 hr2 => run_l tabOk ?_); conv => whnf) | (refine wl_quo rfl rfl rfl rfl rfl rfl (by omega) (by omega) (by simp only [inK]; omega) (run_l tabOk ?_); conv => whnf) | (refine wl_mul rfl rfl rfl rfl rfl rfl (by omega) (by omega) (run_l tabOk ?_); conv => whnf) | (refine gs_dt (by first | assumption | omega) ?_; conv => whnf) | (refine gs_df (by first | assumption | omega) ?_; conv => whnf) | (refine gs_t (by assumption) ?_; conv => whnf) | (refine gs_f (by assumption) ?_; conv => whnf) | (refine gs_d (fun hg => ?_) (fun hg => ?_) <;> conv => whnf) | (refine gs_n (fun hg => ?_) (fun hg => ?_) <;> conv => whnf) | (refine gs_nb (fun hg => ?_) (fun hg => ?_) <;> conv => whnf) | (refine gs_b (fun hg => ?_) (fun hg => ?_) <;> conv => whnf) | refine fin1 rfl rfl ?_))
  have hneg : IntKind.u64.wrap (0 - (x : Int)) = ((18446744073709551616 - x : Nat) : Int) := by rw [IntKind.wrap_u64]; omega
  refine wl_bit (op := .and) (k := .u64) (a := (x : Int)) (b := IntKind.u64.wrap (0 - (x : Int))) (r := ((2 ^ k : Nat) : Int)) (by rw [hneg]; exact (band x (18446744073709551616 - x) _ rfl hx (by omega)).trans (congrArg _ hlow)) rfl rfl rfl rfl rfl rfl rfl (run_l tabOk ?_); conv => whnf
  refine wl_mulk (k := .u64) (a := ((2 ^ k : Nat) : Int)) (b := 285870213051353865) (r := ((2 ^ k * 285870213051353865 % 18446744073709551616 : Nat) : Int)) (by rw [IntKind.wrap_u64]; omega) rfl rfl rfl rfl rfl rfl (run_l tabOk ?_); conv => whnf
  refine wl_shr (r := ((2 ^ k * 285870213051353865 % 18446744073709551616 / 288230376151711744 : Nat) : Int)) (by rw [shr_u64 _ 58 58 rfl (by omega), Nat.shiftRight_eq_div_pow]) rfl rfl rfl (by omega) rfl rfl rfl (run_l tabOk ?_); conv => whnf
  refine wl_XA tabOk 5 1 64 rfl rfl rfl rfl rfl rfl rfl hi (run_l tabOk ?_); conv => whnf
  rw [← Nat.mul_one (2 ^ k * 285870213051353865 % 18446744073709551616 / 288230376151711744), ← add_zero] at hcell
  (repeat' (first | (refine wl_L tabOk rfl rfl rfl rfl rfl rfl hcell (run_l tabOk ?_); conv => whnf) | (refine wl_add rfl rfl rfl rfl rfl rfl (by omega) (by omega) (run_l tabOk ?_); conv => whnf) | (refine wl_sub rfl rfl rfl rfl rfl rfl (by omega) (by omega) (run_l tabOk ?_); conv => whnf) | (refine wl_cvA tabOk rfl rfl rfl (by simp only [inK]; omega) rfl rfl rfl (run_l tabOk ?_); conv => whnf) | (refine wl_cvB tabOk rfl rfl rfl rfl rfl rfl (run_l tabOk ?_); conv => whnf) | (refine wl_rem rfl rfl rfl rfl rfl rfl (by omega) (by omega) (fun r hr hr0 hr1 hr2 => run_l tabOk ?_); conv => whnf) | (refine wl_quo rfl rfl rfl rfl rfl rfl (by omega) (by omega) (by simp only [inK]; omega) (run_l tabOk ?_); conv => whnf) | (refine wl_mul rfl rfl rfl rfl rfl rfl (by omega) (by omega) (run_l tabOk ?_); conv => whnf) | (refine gs_dt (by first | assumption | omega) ?_; conv => whnf) | (refine gs_df (by first | assumption | omega) ?_; conv => whnf) | (refine gs_t (by assumption) ?_; conv => whnf) | (refine gs_f (by assumption) ?_; conv => whnf) | (refine gs_d (fun hg => ?_) (fun hg => ?_) <;> conv => whnf) | (refine gs_n (fun hg => ?_) (fun hg => ?_) <;> conv => whnf) | (refine gs_nb (fun hg => ?_) (fun hg => ?_) <;> conv => whnf) | (refine gs_b (fun hg => ?_) (fun hg => ?_) <;> conv => whnf) | refine fin1 rfl rfl ?_))
  exact ⟨rfl, Below.refl _ _⟩
end Go.Proofs.YtkjbkalakafnlaaDoor

/- pile: Len, All. -/
namespace Go.Proofs.YtkjbkalakafnlaaDoor
open Go.RowKit
set_option linter.unusedVariables false
set_option linter.unusedSimpArgs false
set_option maxRecDepth 100000
theorem pAllN (w : World) : Calls Tryd.prog 50 #[.pointer none] w fun e w' => e = .returned (.slice none 0 0) ∧ Below w.heap.size w w' := by
  refine enterR (args := [.pointer none]) tabOk Tryd.func50 rfl Tryd.ntmps50 rfl ?_; conv => whnf
  (repeat' (first | (refine wl_pnF tabOk rfl rfl rfl rfl rfl rfl (run_l tabOk ?_); conv => whnf) | (refine wl_pnT tabOk rfl rfl rfl rfl rfl rfl (run_l tabOk ?_); conv => whnf) | (refine wl_pqF tabOk rfl rfl rfl rfl rfl rfl (run_l tabOk ?_); conv => whnf) | (refine wl_pqT tabOk rfl rfl rfl rfl rfl rfl (run_l tabOk ?_); conv => whnf) | (refine wl_add rfl rfl rfl rfl rfl rfl (by omega) (by omega) (run_l tabOk ?_); conv => whnf) | (refine wl_sub rfl rfl rfl rfl rfl rfl (by omega) (by omega) (run_l tabOk ?_); conv => whnf) | (refine wl_cvA tabOk rfl rfl rfl (by simp only [inK]; omega) rfl rfl rfl (run_l tabOk ?_); conv => whnf) | (refine wl_cvB tabOk rfl rfl rfl rfl rfl rfl (run_l tabOk ?_); conv => whnf) | (refine wl_rem rfl rfl rfl rfl rfl rfl (by omega) (by omega) (fun r hr hr0 hr1 hr2 => run_l tabOk ?_); conv => whnf) | (refine wl_quo rfl rfl rfl rfl rfl rfl (by omega) (by omega) (by simp only [inK]; omega) (run_l tabOk ?_); conv => whnf) | (refine wl_mul rfl rfl rfl rfl rfl rfl (by omega) (by omega) (run_l tabOk ?_); conv => whnf) | (refine gs_dt (by first | assumption | omega) ?_; conv => whnf) | (refine gs_df (by first | assumption | omega) ?_; conv => whnf) | (refine gs_t (by assumption) ?_; conv => whnf) | (refine gs_f (by assumption) ?_; conv => whnf) | (refine gs_d (fun hg => ?_) (fun hg => ?_) <;> conv => whnf) | (refine gs_n (fun hg => ?_) (fun hg => ?_) <;> conv => whnf) | (refine gs_nb (fun hg => ?_) (fun hg => ?_) <;> conv => whnf) | (refine gs_b (fun hg => ?_) (fun hg => ?_) <;> conv => whnf) | refine fin1 rfl rfl ?_))
  exact ⟨rfl, Below.refl _ _⟩
theorem numsB_take {bs : List Blk} {i : Nat} (hi : i < bs.length) : numsB (bs.take (i + 1)) = numsB (bs.take i) ++ numsOf bs[i]! := by
  rw [take_nextB hi, numsB_snoc]
theorem numsOf_len (b : Blk) : (numsOf b).length = (bitsOf b.w).length := by simp [numsOf]
set_option maxHeartbeats 4000000 in
theorem pAll {base g : Nat} {w : World} {bs : List Blk} {fp : List Nat} (hP : PSet base g w bs fp) (hl : bs.length ≤ 17179869184) (hT : Tab w) :
    Calls Tryd.prog 50 #[.pointer (some ⟨g, 0, none⟩)] w fun e w' => ∃ V, e = .returned V ∧ GInts w.heap.size w' V (numsB bs) ∧ Below w.heap.size w w' := by
  obtain ⟨V, hb, ho, hfp, hne⟩ := hP.ex
  obtain ⟨A, c, rfl, hlc, hrow⟩ := ho.row
  refine enterR (args := [.pointer (some ⟨g, 0, none⟩)]) tabOk Tryd.func50 rfl Tryd.ntmps50 rfl ?_; conv => whnf
  (repeat' (first | (refine wl_Lg tabOk hb rfl rfl rfl rfl rfl rfl rfl (run_l tabOk ?_); conv => whnf) | (refine wl_pnF tabOk rfl rfl rfl rfl rfl rfl (run_l tabOk ?_); conv => whnf) | (refine wl_pnT tabOk rfl rfl rfl rfl rfl rfl (run_l tabOk ?_); conv => whnf) | (refine wl_pqF tabOk rfl rfl rfl rfl rfl rfl (run_l tabOk ?_); conv => whnf) | (refine wl_pqT tabOk rfl rfl rfl rfl rfl rfl (run_l tabOk ?_); conv => whnf) | (refine wl_add rfl rfl rfl rfl rfl rfl (by omega) (by omega) (run_l tabOk ?_); conv => whnf) | (refine wl_sub rfl rfl rfl rfl rfl rfl (by omega) (by omega) (run_l tabOk ?_); conv => whnf) | (refine wl_cvA tabOk rfl rfl rfl (by simp only [inK]; omega) rfl rfl rfl (run_l tabOk ?_); conv => whnf) | (refine wl_cvB tabOk rfl rfl rfl rfl rfl rfl (run_l tabOk ?_); conv => whnf) | (refine wl_rem rfl rfl rfl rfl rfl rfl (by omega) (by omega) (fun r hr hr0 hr1 hr2 => run_l tabOk ?_); conv => whnf) | (refine wl_quo rfl rfl rfl rfl rfl rfl (by omega) (by omega) (by simp only [inK]; omega) (run_l tabOk ?_); conv => whnf) | (refine wl_mul rfl rfl rfl rfl rfl rfl (by omega) (by omega) (run_l tabOk ?_); conv => whnf) | (refine gs_dt (by first | assumption | omega) ?_; conv => whnf) | (refine gs_df (by first | assumption | omega) ?_; conv => whnf) | (refine gs_t (by assumption) ?_; conv => whnf) | (refine gs_f (by assumption) ?_; conv => whnf) | (refine gs_d (fun hg => ?_) (fun hg => ?_) <;> conv => whnf) | (refine gs_n (fun hg => ?_) (fun hg => ?_) <;> conv => whnf) | (refine gs_nb (fun hg => ?_) (fun hg => ?_) <;> conv => whnf) | (refine gs_b (fun hg => ?_) (fun hg => ?_) <;> conv => whnf) | refine fin1 rfl rfl ?_))
  refine lp_loop tabOk (X := Nat × Option Addr × Nat) (fun x => [(3, .slice x.2.1 (numsB (bs.take x.1)).length x.2.2), (12, .slice A bs.length c), (13, .int .i64 bs.length), (14, .int .i64 x.1)])
    (fun x wr => x.1 ≤ bs.length ∧ GInts w.heap.size wr (.slice x.2.1 (numsB (bs.take x.1)).length x.2.2) (numsB (bs.take x.1)) ∧ Below w.heap.size w wr) (fun x => bs.length - x.1) (0, none, 0) ⟨rfl, rfl, rfl, rfl, trivial⟩ ⟨by simp only; omega, GRow.nil .., Below.refl _ _⟩ ?_
  intro ⟨i, D, dc⟩ G wr ⟨hi, hI, hB⟩
  simp only at hi hI
  dsimp only
  conv => whnf
  by_cases hlt : i < bs.length
  · obtain ⟨ad, rfl, hc⟩ := rowB_at (hrow.up stays_Blk hB) i hlt
    have hrg := hP.wf.rng _ (mem_getB hlt)
    have htk := numsB_take hlt
    have hnl := numsB_len (bs.take i)
    have htl : (bs.take i).length = i := by simp; omega
    generalize bs[i]! = bi at hc hrg htk
    generalize numsB (bs.take i) = pre at hI htk hnl
    obtain ⟨ba, bw⟩ := bi
    simp only at hc hrg
    (repeat' (first | (refine wl_Xn tabOk 104 2 rfl rfl rfl rfl rfl rfl rfl (by omega) (run_l tabOk ?_); conv => whnf) | (refine wl_La tabOk hc rfl rfl rfl rfl rfl rfl (run_l tabOk ?_); conv => whnf) | (refine wl_add rfl rfl rfl rfl rfl rfl (by omega) (by omega) (run_l tabOk ?_); conv => whnf) | (refine wl_sub rfl rfl rfl rfl rfl rfl (by omega) (by omega) (run_l tabOk ?_); conv => whnf) | (refine wl_cvA tabOk rfl rfl rfl (by simp only [inK]; omega) rfl rfl rfl (run_l tabOk ?_); conv => whnf) | (refine wl_cvB tabOk rfl rfl rfl rfl rfl rfl (run_l tabOk ?_); conv => whnf) | (refine wl_rem rfl rfl rfl rfl rfl rfl (by omega) (by omega) (fun r hr hr0 hr1 hr2 => run_l tabOk ?_); conv => whnf) | (refine wl_quo rfl rfl rfl rfl rfl rfl (by omega) (by omega) (by simp only [inK]; omega) (run_l tabOk ?_); conv => whnf) | (refine wl_mul rfl rfl rfl rfl rfl rfl (by omega) (by omega) (run_l tabOk ?_); conv => whnf) | (refine gs_dt (by first | assumption | omega) ?_; conv => whnf) | (refine gs_df (by first | assumption | omega) ?_; conv => whnf) | (refine gs_t (by assumption) ?_; conv => whnf) | (refine gs_f (by assumption) ?_; conv => whnf) | (refine gs_d (fun hg => ?_) (fun hg => ?_) <;> conv => whnf) | (refine gs_n (fun hg => ?_) (fun hg => ?_) <;> conv => whnf) | (refine gs_nb (fun hg => ?_) (fun hg => ?_) <;> conv => whnf) | (refine gs_b (fun hg => ?_) (fun hg => ?_) <;> conv => whnf) | refine fin1 rfl rfl ?_))
    refine wl_alloc tabOk rfl rfl rfl rfl rfl rfl ?_
    intro g5 w1 hn1
    refine run_l tabOk ?_
    conv => whnf
    refine wl_Sa tabOk hn1.blk rfl rfl rfl rfl rfl (by simp [Value.oneCell']) rfl rfl ?_
    intro w2 hp2
    have hB2 : Below wr.heap.size wr w2 := hp2.below hn1.below (by have := hn1.at_; omega) (by have := hn1.size; omega)
    have hb5 := hp2.blk
    have hI2 := hI.below hB2
    have hB02 := bup hB hB2
    have hT2 := hT.up hB02
    have hb5n : ∀ k, (Value.slice D pre.length dc).ownBlock = some k → k ≠ g5 := fun k e => by have := (hI.olt k e).2; have := hn1.at_; omega
    refine run_l tabOk ?_
    conv => whnf
    (repeat' (first | (refine wl_Lg tabOk hb5 rfl rfl rfl rfl rfl rfl rfl (run_l tabOk ?_); conv => whnf) | (refine wl_add rfl rfl rfl rfl rfl rfl (by omega) (by omega) (run_l tabOk ?_); conv => whnf) | (refine wl_sub rfl rfl rfl rfl rfl rfl (by omega) (by omega) (run_l tabOk ?_); conv => whnf) | (refine wl_cvA tabOk rfl rfl rfl (by simp only [inK]; omega) rfl rfl rfl (run_l tabOk ?_); conv => whnf) | (refine wl_cvB tabOk rfl rfl rfl rfl rfl rfl (run_l tabOk ?_); conv => whnf) | (refine wl_rem rfl rfl rfl rfl rfl rfl (by omega) (by omega) (fun r hr hr0 hr1 hr2 => run_l tabOk ?_); conv => whnf) | (refine wl_quo rfl rfl rfl rfl rfl rfl (by omega) (by omega) (by simp only [inK]; omega) (run_l tabOk ?_); conv => whnf) | (refine wl_mul rfl rfl rfl rfl rfl rfl (by omega) (by omega) (run_l tabOk ?_); conv => whnf) | (refine gs_dt (by first | assumption | omega) ?_; conv => whnf) | (refine gs_df (by first | assumption | omega) ?_; conv => whnf) | (refine gs_t (by assumption) ?_; conv => whnf) | (refine gs_f (by assumption) ?_; conv => whnf) | (refine gs_d (fun hg => ?_) (fun hg => ?_) <;> conv => whnf) | (refine gs_n (fun hg => ?_) (fun hg => ?_) <;> conv => whnf) | (refine gs_nb (fun hg => ?_) (fun hg => ?_) <;> conv => whnf) | (refine gs_b (fun hg => ?_) (fun hg => ?_) <;> conv => whnf) | refine fin1 rfl rfl ?_))
    clear hp2 hn1 hI
    refine lp_loop tabOk (X := Option Addr × Nat × Nat × List Nat) (fun x => [(3, .slice x.1 (pre ++ x.2.2.2.map (fun (i : Nat) => 64 * ba + (i : Int))).length x.2.1), (5, .pointer (some ⟨g5, 0, none⟩)), (6, .int .u64 (x.2.2.1 : Int)), (12, .slice (some ad) bs.length c), (13, .int .i64 bs.length), (14, .int .i64 i)])
      (fun x wk => x.2.2.1 < 18446744073709551616 ∧ bitsOf bw = x.2.2.2 ++ bitsOf x.2.2.1 ∧ GInts w.heap.size wk (.slice x.1 (pre ++ x.2.2.2.map (fun (i : Nat) => 64 * ba + (i : Int))).length x.2.1) (pre ++ x.2.2.2.map (fun (i : Nat) => 64 * ba + (i : Int))) ∧ Below w.heap.size w wk ∧ wk.heap[g5]? = some (.cells #[.int .i64 ba, .int .u64 (bw : Int)] 104 (0, 0)) ∧ (∀ k, (Value.slice x.1 (pre ++ x.2.2.2.map (fun (i : Nat) => 64 * ba + (i : Int))).length x.2.1).ownBlock = some k → k ≠ g5))
      (fun x => x.2.2.1) (D, dc, bw, []) ⟨?_, rfl, rfl, rfl, rfl, rfl, trivial⟩ ⟨hrg.2.2.2, rfl, by simpa using hI2, hB02, hb5, by simpa using hb5n⟩ ?_
    · exact congrArg (fun z => Value.slice D z dc) (by simp : pre.length = (pre ++ ([] : List Nat).map (fun (i : Nat) => 64 * ba + (i : Int))).length)
    clear hb5 hI2 hB02 hT2 hb5n
    intro ⟨E, ec, v, dn⟩ G2 wk ⟨hv, hbits, hI, hBk, hb5, hg5⟩
    simp only at hv hbits hI hg5
    dsimp only
    conv => whnf
    have hTk := hT.up hBk
    by_cases hv0 : v = 0
    · subst hv0
      (repeat' (first | (refine wl_add rfl rfl rfl rfl rfl rfl (by omega) (by omega) (run_l tabOk ?_); conv => whnf) | (refine wl_sub rfl rfl rfl rfl rfl rfl (by omega) (by omega) (run_l tabOk ?_); conv => whnf) | (refine wl_cvA tabOk rfl rfl rfl (by simp only [inK]; omega) rfl rfl rfl (run_l tabOk ?_); conv => whnf) | (refine wl_cvB tabOk rfl rfl rfl rfl rfl rfl (run_l tabOk ?_); conv => whnf) | (refine wl_rem rfl rfl rfl rfl rfl rfl (by omega) (by omega) (fun r hr hr0 hr1 hr2 => run_l tabOk ?_); conv => whnf) | (refine wl_quo rfl rfl rfl rfl rfl rfl (by omega) (by omega) (by simp only [inK]; omega) (run_l tabOk ?_); conv => whnf) | (refine wl_mul rfl rfl rfl rfl rfl rfl (by omega) (by omega) (run_l tabOk ?_); conv => whnf) | (refine gs_dt (by first | assumption | omega) ?_; conv => whnf) | (refine gs_df (by first | assumption | omega) ?_; conv => whnf) | (refine gs_t (by assumption) ?_; conv => whnf) | (refine gs_f (by assumption) ?_; conv => whnf) | (refine gs_d (fun hg => ?_) (fun hg => ?_) <;> conv => whnf) | (refine gs_n (fun hg => ?_) (fun hg => ?_) <;> conv => whnf) | (refine gs_nb (fun hg => ?_) (fun hg => ?_) <;> conv => whnf) | (refine gs_b (fun hg => ?_) (fun hg => ?_) <;> conv => whnf) | refine fin1 rfl rfl ?_))
      rw [bitsOf_zero, List.append_nil] at hbits
      rw [← hbits] at hI
      refine ⟨(i + 1, E, ec), ⟨?_, rfl, rfl, rfl, trivial⟩, ⟨by simp only; omega, ?_, hBk⟩, by simp only; omega⟩
      · show Value.slice E _ ec = Value.slice E _ ec
        simp only
        rw [htk, ← hbits]
        rfl
      · simp only
        rw [htk]
        exact hI
    · obtain ⟨hst, hlt64, hdec⟩ := bitsOf_step hv0 hv
      have hdl : dn.length < 64 := by
        have h1 := congrArg List.length hbits
        have h2 := bitsOf_len bw
        rw [hst] at h1
        simp at h1
        omega
      (repeat' (first | (refine wl_add rfl rfl rfl rfl rfl rfl (by omega) (by omega) (run_l tabOk ?_); conv => whnf) | (refine wl_sub rfl rfl rfl rfl rfl rfl (by omega) (by omega) (run_l tabOk ?_); conv => whnf) | (refine wl_cvA tabOk rfl rfl rfl (by simp only [inK]; omega) rfl rfl rfl (run_l tabOk ?_); conv => whnf) | (refine wl_cvB tabOk rfl rfl rfl rfl rfl rfl (run_l tabOk ?_); conv => whnf) | (refine wl_rem rfl rfl rfl rfl rfl rfl (by omega) (by omega) (fun r hr hr0 hr1 hr2 => run_l tabOk ?_); conv => whnf) | (refine wl_quo rfl rfl rfl rfl rfl rfl (by omega) (by omega) (by simp only [inK]; omega) (run_l tabOk ?_); conv => whnf) | (refine wl_mul rfl rfl rfl rfl rfl rfl (by omega) (by omega) (run_l tabOk ?_); conv => whnf) | (refine gs_dt (by first | assumption | omega) ?_; conv => whnf) | (refine gs_df (by first | assumption | omega) ?_; conv => whnf) | (refine gs_t (by assumption) ?_; conv => whnf) | (refine gs_f (by assumption) ?_; conv => whnf) | (refine gs_d (fun hg => ?_) (fun hg => ?_) <;> conv => whnf) | (refine gs_n (fun hg => ?_) (fun hg => ?_) <;> conv => whnf) | (refine gs_nb (fun hg => ?_) (fun hg => ?_) <;> conv => whnf) | (refine gs_b (fun hg => ?_) (fun hg => ?_) <;> conv => whnf) | refine fin1 rfl rfl ?_))
      refine wc_qt 7 8 (stable_Bw _) tabOk mixed (by kernel_rfl) rfl (Below.refl _ _) ?_; conv => whnf
      (repeat' (first | (refine wq_Lg tabOk hb5 rfl rfl rfl rfl rfl rfl rfl (run_q tabOk ?_); conv => whnf) | (refine wq_C fn64 (fun w' hw' => pTz v hv hv0 w' (hTk.up hw')) rfl rfl rfl rfl rfl rfl rfl (run_q tabOk ?_); (conv => whnf)) | (refine wq_add rfl rfl rfl rfl rfl rfl (by omega) (by omega) (run_q tabOk ?_); conv => whnf) | (refine wq_sub rfl rfl rfl rfl rfl rfl (by omega) (by omega) (run_q tabOk ?_); conv => whnf) | (refine wq_cvA tabOk rfl rfl rfl (by simp only [inK]; omega) rfl rfl rfl (run_q tabOk ?_); conv => whnf) | (refine wq_cvB tabOk rfl rfl rfl rfl rfl rfl (run_q tabOk ?_); conv => whnf) | (refine wq_rem rfl rfl rfl rfl rfl rfl (by omega) (by omega) (fun r hr hr0 hr1 hr2 => run_q tabOk ?_); conv => whnf) | (refine wq_quo rfl rfl rfl rfl rfl rfl (by omega) (by omega) (by simp only [inK]; omega) (run_q tabOk ?_); conv => whnf) | (refine wq_mul rfl rfl rfl rfl rfl rfl (by omega) (by omega) (run_q tabOk ?_); conv => whnf) | (refine gs_dt (by first | assumption | omega) ?_; conv => whnf) | (refine gs_df (by first | assumption | omega) ?_; conv => whnf) | (refine gs_t (by assumption) ?_; conv => whnf) | (refine gs_f (by assumption) ?_; conv => whnf) | (refine gs_d (fun hg => ?_) (fun hg => ?_) <;> conv => whnf) | (refine gs_n (fun hg => ?_) (fun hg => ?_) <;> conv => whnf) | (refine gs_nb (fun hg => ?_) (fun hg => ?_) <;> conv => whnf) | (refine gs_b (fun hg => ?_) (fun hg => ?_) <;> conv => whnf)))
      intro U1 _ hU1
      conv => whnf
      refine wa_bs tabOk 3 1 rfl rfl rfl rfl rfl rfl rfl rfl rfl ?_
      intro g7 U2 hn7
      refine ⟨hn7.up hU1, fun U3 hU3 _ => ?_⟩
      conv => whnf
      have hU13 := bup (hn7.up hU1) hU3
      have hI3 := hI.below hU13
      obtain ⟨flat, hfl, hel⟩ := hI3.own
      have hln : (pre ++ dn.map (fun (i : Nat) => 64 * ba + (i : Int))).length ≤ 1099511627776 := by simp; omega
      have hBU := bup hBk hU13
      have hks := hBU.size
      refine wl_ap tabOk 3 1 8 hfl (blk_up hU3 hn7.blk) rfl rfl rfl rfl rfl rfl rfl rfl rfl rfl rfl rfl (by simp [Value.oneCell']) (by omega) (by omega) (by omega) ?_
      intro A7 cap7 U4 hown hgr hob
      have hnew := gints_push hI3 hel hown hgr hob (y := 64 * ba + (Lib.ctz 64 v : Nat)) ⟨by omega, by omega⟩
      have hBU4 : Below w.heap.size w U4 := hBU.grown hgr (by omega) (fun k hk => (hI3.olt k hk).1)
      have hb54 : U4.heap[g5]? = some (.cells #[.int .i64 ba, .int .u64 (bw : Int)] 104 (0, 0)) := (hgr.block g5 (blk_lt (blk_up hU13 hb5)) (fun e => hg5 g5 e.symm rfl)).trans (blk_up hU13 hb5)
      have hg54 : ∀ k, (Value.slice A7 ((pre ++ dn.map (fun (i : Nat) => 64 * ba + (i : Int))).length + 1) cap7).ownBlock = some k → k ≠ g5 := fun k e => by
        rcases hob with h1 | h1
        · exact hg5 k (h1.symm.trans e)
        · rw [e] at h1
          have := blk_lt (blk_up hU13 hb5)
          cases h1
          omega
      have ex : pre ++ dn.map (fun (i : Nat) => 64 * ba + (i : Int)) ++ [64 * ba + ((Lib.ctz 64 v : Nat) : Int)] = pre ++ (dn ++ [Lib.ctz 64 v]).map (fun (i : Nat) => 64 * ba + (i : Int)) := by simp
      rw [ex] at hnew
      have exl : (pre ++ dn.map (fun (i : Nat) => 64 * ba + (i : Int))).length + 1 = (pre ++ (dn ++ [Lib.ctz 64 v]).map (fun (i : Nat) => 64 * ba + (i : Int))).length := by rw [← ex]; simp; omega
      rw [exl] at hnew hg54 ⊢
      refine run_l tabOk ?_
      conv => whnf
      (repeat' (first | (refine wl_add rfl rfl rfl rfl rfl rfl (by omega) (by omega) (run_l tabOk ?_); conv => whnf) | (refine wl_sub rfl rfl rfl rfl rfl rfl (by omega) (by omega) (run_l tabOk ?_); conv => whnf) | (refine wl_cvA tabOk rfl rfl rfl (by simp only [inK]; omega) rfl rfl rfl (run_l tabOk ?_); conv => whnf) | (refine wl_cvB tabOk rfl rfl rfl rfl rfl rfl (run_l tabOk ?_); conv => whnf) | (refine wl_rem rfl rfl rfl rfl rfl rfl (by omega) (by omega) (fun r hr hr0 hr1 hr2 => run_l tabOk ?_); conv => whnf) | (refine wl_quo rfl rfl rfl rfl rfl rfl (by omega) (by omega) (by simp only [inK]; omega) (run_l tabOk ?_); conv => whnf) | (refine wl_mul rfl rfl rfl rfl rfl rfl (by omega) (by omega) (run_l tabOk ?_); conv => whnf) | (refine gs_dt (by first | assumption | omega) ?_; conv => whnf) | (refine gs_df (by first | assumption | omega) ?_; conv => whnf) | (refine gs_t (by assumption) ?_; conv => whnf) | (refine gs_f (by assumption) ?_; conv => whnf) | (refine gs_d (fun hg => ?_) (fun hg => ?_) <;> conv => whnf) | (refine gs_n (fun hg => ?_) (fun hg => ?_) <;> conv => whnf) | (refine gs_nb (fun hg => ?_) (fun hg => ?_) <;> conv => whnf) | (refine gs_b (fun hg => ?_) (fun hg => ?_) <;> conv => whnf) | refine fin1 rfl rfl ?_))
      refine wl_subr (k := .u64) (a := (v : Int)) (b := 1) (r := ((v - 1 : Nat) : Int)) (by rw [IntKind.wrap_u64]; omega) rfl rfl rfl rfl rfl rfl (run_l tabOk ?_); conv => whnf
      refine wl_bit (r := ((v &&& (v - 1) : Nat) : Int)) (bits_and_u64_nat v (v - 1) hv (by omega)) rfl rfl rfl rfl rfl rfl rfl (run_l tabOk ?_); conv => whnf
      (repeat' (first | (refine wl_add rfl rfl rfl rfl rfl rfl (by omega) (by omega) (run_l tabOk ?_); conv => whnf) | (refine wl_sub rfl rfl rfl rfl rfl rfl (by omega) (by omega) (run_l tabOk ?_); conv => whnf) | (refine wl_cvA tabOk rfl rfl rfl (by simp only [inK]; omega) rfl rfl rfl (run_l tabOk ?_); conv => whnf) | (refine wl_cvB tabOk rfl rfl rfl rfl rfl rfl (run_l tabOk ?_); conv => whnf) | (refine wl_rem rfl rfl rfl rfl rfl rfl (by omega) (by omega) (fun r hr hr0 hr1 hr2 => run_l tabOk ?_); conv => whnf) | (refine wl_quo rfl rfl rfl rfl rfl rfl (by omega) (by omega) (by simp only [inK]; omega) (run_l tabOk ?_); conv => whnf) | (refine wl_mul rfl rfl rfl rfl rfl rfl (by omega) (by omega) (run_l tabOk ?_); conv => whnf) | (refine gs_dt (by first | assumption | omega) ?_; conv => whnf) | (refine gs_df (by first | assumption | omega) ?_; conv => whnf) | (refine gs_t (by assumption) ?_; conv => whnf) | (refine gs_f (by assumption) ?_; conv => whnf) | (refine gs_d (fun hg => ?_) (fun hg => ?_) <;> conv => whnf) | (refine gs_n (fun hg => ?_) (fun hg => ?_) <;> conv => whnf) | (refine gs_nb (fun hg => ?_) (fun hg => ?_) <;> conv => whnf) | (refine gs_b (fun hg => ?_) (fun hg => ?_) <;> conv => whnf) | refine fin1 rfl rfl ?_))
      refine ⟨(A7, cap7, v &&& (v - 1), dn ++ [Lib.ctz 64 v]), ⟨rfl, rfl, rfl, rfl, rfl, rfl, trivial⟩, ⟨by simp only; omega, ?_, hnew, hBU4, hb54, hg54⟩, hdec⟩
      rw [hbits, hst, List.append_assoc]
      rfl
  · (repeat' (first | (refine wl_add rfl rfl rfl rfl rfl rfl (by omega) (by omega) (run_l tabOk ?_); conv => whnf) | (refine wl_sub rfl rfl rfl rfl rfl rfl (by omega) (by omega) (run_l tabOk ?_); conv => whnf) | (refine wl_cvA tabOk rfl rfl rfl (by simp only [inK]; omega) rfl rfl rfl (run_l tabOk ?_); conv => whnf) | (refine wl_cvB tabOk rfl rfl rfl rfl rfl rfl (run_l tabOk ?_); conv => whnf) | (refine wl_rem rfl rfl rfl rfl rfl rfl (by omega) (by omega) (fun r hr hr0 hr1 hr2 => run_l tabOk ?_); conv => whnf) | (refine wl_quo rfl rfl rfl rfl rfl rfl (by omega) (by omega) (by simp only [inK]; omega) (run_l tabOk ?_); conv => whnf) | (refine wl_mul rfl rfl rfl rfl rfl rfl (by omega) (by omega) (run_l tabOk ?_); conv => whnf) | (refine gs_dt (by first | assumption | omega) ?_; conv => whnf) | (refine gs_df (by first | assumption | omega) ?_; conv => whnf) | (refine gs_t (by assumption) ?_; conv => whnf) | (refine gs_f (by assumption) ?_; conv => whnf) | (refine gs_d (fun hg => ?_) (fun hg => ?_) <;> conv => whnf) | (refine gs_n (fun hg => ?_) (fun hg => ?_) <;> conv => whnf) | (refine gs_nb (fun hg => ?_) (fun hg => ?_) <;> conv => whnf) | (refine gs_b (fun hg => ?_) (fun hg => ?_) <;> conv => whnf) | refine fin1 rfl rfl ?_))
    have : bs.take i = bs := List.take_of_length_le (by omega)
    rw [this] at hI ⊢
    exact ⟨_, rfl, hI, hB⟩
end Go.Proofs.YtkjbkalakafnlaaDoor

/- pile: Of. Lists that rise. -/
namespace Go.Proofs.YtkjbkalakafnlaaDoor
open Go.RowKit
set_option linter.unusedVariables false
set_option linter.unusedSimpArgs false
set_option maxRecDepth 100000
theorem up_eq : ∀ {xs ys : List Int}, xs.Pairwise (· < ·) → ys.Pairwise (· < ·) → (∀ x, x ∈ xs ↔ x ∈ ys) → xs = ys
  | [], [], _, _, _ => rfl
  | [], y :: ys, _, _, h => by have := (h y).2 (by simp); cases this
  | x :: xs, [], _, _, h => by have := (h x).1 (by simp); cases this
  | x :: xs, y :: ys, h1, h2, h => by
    have t1 : ∀ b ∈ xs, x < b := fun b hb => List.rel_of_pairwise_cons h1 hb
    have t2 : ∀ b ∈ ys, y < b := fun b hb => List.rel_of_pairwise_cons h2 hb
    have e : x = y := by
      rcases List.mem_cons.1 ((h x).1 (by simp)) with e | m1
      · exact e
      · rcases List.mem_cons.1 ((h y).2 (by simp)) with e | m2
        · exact e.symm
        · have := t2 x m1; have := t1 y m2; omega
    subst e
    rw [up_eq (List.Pairwise.of_cons h1) (List.Pairwise.of_cons h2) fun b => ⟨fun hb => ?_, fun hb => ?_⟩]
    · rcases List.mem_cons.1 ((h b).1 (by simp [hb])) with e | m
      · subst e; have := t1 b hb; omega
      · exact m
    · rcases List.mem_cons.1 ((h b).2 (by simp [hb])) with e | m
      · subst e; have := t2 b hb; omega
      · exact m
/-- A set of its own. -/
structure OwnS (w0 : World) (g : Nat) (w : World) (bs : List Blk) (fp : List Nat) : Prop where
  set : PSet w0.heap.size g w bs fp
  below : Below w0.heap.size w0 w
/-- An empty one is made. -/
theorem pset_new {w w1 : World} {g : Nat} (h : New w w1 g [.slice none 0 0] 91) : PSet w.heap.size g w1 [] [g] :=
  ⟨⟨.slice none 0 0, h.blk, own_nil .., rfl, by simp [Value.ownBlock]⟩, Nat.le_of_eq h.at_.symm, WFB.nil⟩
theorem OwnS.add {w0 w w' : World} {g : Nat} {bs bs' : List Blk} {fp fp' : List Nat} {n : Int} {e : Ending} (h : OwnS w0 g w bs fp) (r : AddR w0.heap.size g w bs fp n e w' bs' fp') : OwnS w0 g w' bs' fp' :=
  ⟨r.set, r.kept.below h.below h.below.size (fun k hk => (h.set.lt k hk).1)⟩
/-- The numbers of a set, where it is known what is in it. -/
theorem numsB_is {bs : List Blk} (hw : WFB bs) {l : List Int} (hl : l.Pairwise (· < ·)) (h0 : ∀ x ∈ l, 0 ≤ x) (h : ∀ m : Nat, memB bs m = decide ((m : Int) ∈ l)) : numsB bs = l := by
  refine up_eq (numsB_up hw.up) hl fun x => ?_
  rw [mem_numsB hw, h]
  constructor
  · rintro ⟨h1, h2⟩
    have h2 : ((x.toNat : Nat) : Int) ∈ l := by simpa using h2
    rwa [show ((x.toNat : Nat) : Int) = x by omega] at h2
  · intro hx
    refine ⟨h0 x hx, ?_⟩
    rw [show ((x.toNat : Nat) : Int) = x by have := h0 x hx; omega]
    simpa using hx
end Go.Proofs.YtkjbkalakafnlaaDoor

/- The solver in memory: its struct, its rows and its sets, each by its owner. -/
namespace Go.Proofs.YtkjbkalakafnlaaDoor
open Go.RowKit
set_option linter.unusedVariables false
set_option linter.unusedSimpArgs false
structure Cx where
  base : Nat
  gx : Nat
  n : Nat
  xs : List Cell
  ys : List Con
  A1 : Option Addr
  A2 : Option Addr
  c1 : Nat
  c2 : Nat
structure Mem where
  k : Nat
  gi : Nat → Nat
  gd : Nat → Nat
  gt : Nat → Nat
  bi : Nat → List Blk
  bd : Nat → List Blk
  bt : Nat → List Blk
  Vr : Nat → Value
  fr : Nat → List Nat
  wk : List Nat
  pops : Nat
  Vi : Value
  Vd : Value
  Vt : Value
  Vw : Value
  gf : Nat
  go : Nat
def Mem.st (m : Mem) : St := ⟨fun v o => memB (m.bi v) o, fun v o => memB (m.bd v) o, fun v o => memB (m.bt v) o, m.wk, m.pops⟩
def ptrV (g : Nat) : Value := .pointer (some ⟨g, 0, none⟩)
def ptrs (k : Nat) (g : Nat → Nat) : List Value := (List.range k).map fun v => ptrV (g v)
def setN {α : Type} (f : Nat → α) (v : Nat) (x : α) : Nat → α := fun j => if j = v then x else f j
theorem setN_at {α : Type} (f : Nat → α) (v : Nat) (x : α) : setN f v x v = x := if_pos rfl
theorem setN_ne {α : Type} (f : Nat → α) {v j : Nat} (x : α) (h : j ≠ v) : setN f v x j = f j := if_neg h
def boxV (c : Cx) (m : Mem) : List Value := [.int .i64 (c.n : Int), .slice c.A1 c.xs.length c.c1, .slice c.A2 c.ys.length c.c2, m.Vi, m.Vd, m.Vt, .slice (some ⟨m.gf, 0, none⟩) c.n c.n, m.Vw, .slice (some ⟨m.go, 0, none⟩) c.n c.n, .int .i64 (m.pops : Int)]
def onV (n : Nat) (wk : List Nat) : List Value := (List.range n).map fun v => .bool (decide (v ∈ wk))
def rowP (base k : Nat) (V : Value) (g : Nat → Nat) : List Nat → World → Prop := fun fp w => fp = V.ownBlock.toList ∧ w.ownsRow base 88 1 V k (ptrs k g)
def comp7 (c : Cx) (m : Mem) (v t : Nat) : List Nat → World → Prop := fun fp w =>
  (t = 0 → v < m.k → PSet c.base (m.gi v) w (m.bi v) fp) ∧ (t = 1 → v < m.k → PSet c.base (m.gd v) w (m.bd v) fp) ∧ (t = 2 → v < m.k → PSet c.base (m.gt v) w (m.bt v) fp) ∧ (t = 3 → v < c.n → QRow c.base (m.Vr v) (m.fr v) fp w)
/-- What each owner holds. -/
def comp (c : Cx) (m : Mem) : Nat → List Nat → World → Prop
  | 0 => fun fp w => fp = [c.gx] ∧ w.heap[c.gx]? = some (.cells (boxV c m).toArray 87 (0, 0))
  | 1 => rowP c.base m.k m.Vi m.gi
  | 2 => rowP c.base m.k m.Vd m.gd
  | 3 => rowP c.base m.k m.Vt m.gt
  | 4 => fun fp w => fp = [m.gf] ∧ w.heap[m.gf]? = some (.cells ((List.range c.n).map m.Vr).toArray 46 (0, 0))
  | 5 => QRow c.base m.Vw m.wk
  | 6 => fun fp w => fp = [m.go] ∧ w.heap[m.go]? = some (.cells (onV c.n m.wk).toArray 4 (0, 0))
  | j + 7 => fun fp w => 93 ≤ j → comp7 c m ((j - 93) / 4) ((j - 93) % 4) fp w
structure SV (c : Cx) (O : Nat → Nat) (w : World) (m : Mem) : Prop where
  all : All O w (comp c m)
  low : ∀ b, b < c.base → O b = 99
  sz : c.base ≤ w.heap.size
  hk : m.k = c.n
  nd : m.wk.Nodup
  wl : ∀ v ∈ m.wk, v < c.n
  hn : c.n ≤ 16384
  hx : c.xs.length ≤ 16384
section
variable {base k v : Nat} {V : Value} {g : Nat → Nat} {fp : List Nat} {w w1 : World}
theorem ptrs_len (k : Nat) (g : Nat → Nat) : (ptrs k g).length = k := by simp [ptrs]
theorem ptrs_get {k : Nat} {g : Nat → Nat} {v : Nat} (h : v < k) : (ptrs k g)[v]? = some (ptrV (g v)) := by simp [ptrs, h]
theorem range_set {α : Type} (f : Nat → α) (k v : Nat) (x : α) : ((List.range k).map f).set v x = (List.range k).map (setN f v x) := by
  refine List.ext_getElem (by simp) fun j h1 h2 => ?_
  rw [List.getElem_set]
  simp only [List.getElem_map, List.getElem_range, setN]
  by_cases e : v = j
  · rw [if_pos e, if_pos e.symm]
  · rw [if_neg e, if_neg (fun e' => e e'.symm)]
theorem ptrs_set (k : Nat) (g : Nat → Nat) (v p : Nat) : (ptrs k g).set v (ptrV p) = ptrs k (setN g v p) := by
  unfold ptrs
  rw [range_set]
  congr 1
  funext j
  unfold setN
  split <;> rfl
theorem rowP.form (h : rowP base k V g fp w) (hv : v < k) : ∃ (g0 : Nat) (cap : Nat) (cur : List Value), V = .slice (some ⟨g0, 0, none⟩) k cap ∧ fp = [g0] ∧ w.heap[g0]? = some (.cells cur.toArray 88 (0, 0)) ∧
    (∀ j, j < k → w.cell? ((⟨g0, 0, none⟩ : Addr).add (j * 1)) = some (ptrV (g j))) ∧ k ≤ cur.length ∧ ∀ (w1 : World) (j p : Nat), j < k → w1.heap[g0]? = some (.cells (cur.set j (ptrV p)).toArray 88 (0, 0)) → rowP base k V (setN g j p) [g0] w1 := by
  obtain ⟨h1, h2⟩ := h
  have hlen := ptrs_len k g
  rcases h2.2 with ⟨rfl, h0⟩ | ⟨g0, cap, cur, rfl, hbg, hg, hnc, hcm, hcs, htake⟩
  · omega
  · have hcl : k ≤ cur.toList.length := by simp; omega
    have htk : cur.toList.take k = ptrs k g := by rw [Nat.mul_one] at htake; exact htake
    refine ⟨g0, cap, cur.toList, rfl, by rw [h1]; rfl, by simpa using hg, fun j hj => ?_, hcl, fun w1 j p hj hp => ⟨rfl, ?_⟩⟩
    · rw [Nat.mul_one, add_zero]
      refine cell_blk hg ?_
      have := ptrs_get (g := g) hj
      rw [← htk, List.getElem?_take, if_pos hj] at this
      simpa using this
    · refine ⟨by simp [ptrs_len], .inr ⟨g0, cap, (cur.toList.set j (ptrV p)).toArray, rfl, hbg, hp, hnc, hcm, by simpa using hcs, ?_⟩⟩
      rw [Nat.mul_one]
      show (cur.toList.set j (ptrV p)).take k = _
      rw [List.take_set, htk, ptrs_set]
theorem comp_at {c : Cx} {m : Mem} (v t : Nat) (ht : t < 4) : comp c m (100 + 4 * v + t) = comp7 c m v t := by
  have e : 100 + 4 * v + t = (93 + 4 * v + t) + 7 := by omega
  rw [e]
  funext fp w
  show (93 ≤ 93 + 4 * v + t → comp7 c m ((93 + 4 * v + t - 93) / 4) ((93 + 4 * v + t - 93) % 4) fp w) = _
  have e1 : (93 + 4 * v + t - 93) / 4 = v := by omega
  have e2 : (93 + 4 * v + t - 93) % 4 = t := by omega
  rw [e1, e2]
  simp [show 93 ≤ 93 + 4 * v + t by omega]
theorem comp_free {c : Cx} {m : Mem} {j : Nat} (h : 50 ≤ j) (h2 : j < 100) : comp c m j = fun _ _ => True := by
  obtain ⟨i, rfl⟩ : ∃ i, j = i + 7 := ⟨j - 7, by omega⟩
  funext fp w
  show (93 ≤ i → comp7 c m ((i - 93) / 4) ((i - 93) % 4) fp w) = True
  simp
  intro h3; omega
/-- Two memories that differ in little. -/
theorem comp_same {c : Cx} {m m' : Mem} (j : Nat) (hk : m'.k = m.k) (h0 : j = 0 → boxV c m' = boxV c m) (h1 : j = 1 → m'.Vi = m.Vi ∧ m'.gi = m.gi) (h2 : j = 2 → m'.Vd = m.Vd ∧ m'.gd = m.gd) (h3 : j = 3 → m'.Vt = m.Vt ∧ m'.gt = m.gt) (h4 : j = 4 → m'.gf = m.gf ∧ m'.Vr = m.Vr)
    (h5 : j = 5 → m'.Vw = m.Vw ∧ m'.wk = m.wk) (h6 : j = 6 → m'.go = m.go ∧ m'.wk = m.wk)
    (h7 : ∀ v, j = 100 + 4 * v → m'.gi v = m.gi v ∧ m'.bi v = m.bi v) (h8 : ∀ v, j = 100 + 4 * v + 1 → m'.gd v = m.gd v ∧ m'.bd v = m.bd v) (h9 : ∀ v, j = 100 + 4 * v + 2 → m'.gt v = m.gt v ∧ m'.bt v = m.bt v) (h10 : ∀ v, j = 100 + 4 * v + 3 → m'.Vr v = m.Vr v ∧ m'.fr v = m.fr v) : comp c m' j = comp c m j := by
  match j with
  | 0 => funext fp w; simp only [comp, h0 rfl]
  | 1 => simp only [comp, h1 rfl, hk]
  | 2 => simp only [comp, h2 rfl, hk]
  | 3 => simp only [comp, h3 rfl, hk]
  | 4 => simp only [comp, h4 rfl]
  | 5 => simp only [comp, h5 rfl]
  | 6 => simp only [comp, h6 rfl]
  | i + 7 =>
    funext fp w
    simp only [comp]
    refine propext ⟨fun h hi => ?_, fun h hi => ?_⟩ <;> have h := h hi <;> unfold comp7 at h ⊢ <;> refine ⟨fun e hv => ?_, fun e hv => ?_, fun e hv => ?_, fun e hv => ?_⟩
    · have := h.1 e (by rw [hk]; exact hv); rwa [(h7 _ (by omega)).1, (h7 _ (by omega)).2] at this
    · have := h.2.1 e (by rw [hk]; exact hv); rwa [(h8 _ (by omega)).1, (h8 _ (by omega)).2] at this
    · have := h.2.2.1 e (by rw [hk]; exact hv); rwa [(h9 _ (by omega)).1, (h9 _ (by omega)).2] at this
    · have := h.2.2.2 e hv; rwa [(h10 _ (by omega)).1, (h10 _ (by omega)).2] at this
    · have := h.1 e (by rw [← hk]; exact hv); rwa [(h7 _ (by omega)).1, (h7 _ (by omega)).2]
    · have := h.2.1 e (by rw [← hk]; exact hv); rwa [(h8 _ (by omega)).1, (h8 _ (by omega)).2]
    · have := h.2.2.1 e (by rw [← hk]; exact hv); rwa [(h9 _ (by omega)).1, (h9 _ (by omega)).2]
    · have := h.2.2.2 e hv; rwa [(h10 _ (by omega)).1, (h10 _ (by omega)).2]
theorem comp_up {c : Cx} {m m' : Mem} (j : Nat) {fp : List Nat} {w : World} (hj : comp c m j fp w) (hk : m'.k = m.k) (h0 : j = 0 → boxV c m' = boxV c m) (h1 : j = 1 → m'.Vi = m.Vi ∧ m'.gi = m.gi) (h2 : j = 2 → m'.Vd = m.Vd ∧ m'.gd = m.gd) (h3 : j = 3 → m'.Vt = m.Vt ∧ m'.gt = m.gt) (h4 : j = 4 → m'.gf = m.gf ∧ m'.Vr = m.Vr)
    (h5 : j = 5 → m'.Vw = m.Vw ∧ m'.wk = m.wk) (h6 : j = 6 → m'.go = m.go ∧ m'.wk = m.wk)
    (h7 : ∀ v, j = 100 + 4 * v → m'.gi v = m.gi v ∧ m'.bi v = m.bi v) (h8 : ∀ v, j = 100 + 4 * v + 1 → m'.gd v = m.gd v ∧ m'.bd v = m.bd v) (h9 : ∀ v, j = 100 + 4 * v + 2 → m'.gt v = m.gt v ∧ m'.bt v = m.bt v) (h10 : ∀ v, j = 100 + 4 * v + 3 → m'.Vr v = m.Vr v ∧ m'.fr v = m.fr v) : comp c m' j fp w := by
  rw [comp_same (m := m) (m' := m') j hk h0 h1 h2 h3 h4 h5 h6 h7 h8 h9 h10]
  exact hj
end
section
variable {c : Cx} {O O1 : Nat → Nat} {w w1 : World} {m : Mem} {v k g : Nat} {f : Nat → List Nat → World → Prop} {P : List Nat → World → Prop}
/-- A block of one owner is written. -/
theorem All.putB {cs : List Value} {t : TypeId} (h : All O w f) (hp : Put w w1 g cs t) (hO : O g = k) (hP : ∀ w', w'.heap[g]? = some (.cells cs.toArray t (0, 0)) → P [g] w') : All (newO O w.heap.size k) w1 (updF f k P) :=
  h.put (rb := [g]) (fp := [g]) (Kept.put (Kept.refl _ _) hp (.inl (by simp))) (by simpa using fun _ => hO) (by simpa using ⟨fun _ => hO, blk_lt hp.blk⟩) fun w' hw => hP w' ((hw g (by simp)).trans hp.blk)
/-- All facts, and how the world came of an elder one. -/
structure AS (O : Nat → Nat) (w : World) (O1 : Nat → Nat) (w1 : World) (f : Nat → List Nat → World → Prop) : Prop where
  all : All O1 w1 f
  stp : Stp O O1 w w1
theorem AS.start (h : All O w f) : AS O w O w f := ⟨h, Stp.refl _ _⟩
section
variable {w2 : World}
theorem AS.up (h : AS O w O1 w1 f) (hb : Below w1.heap.size w1 w2) (k : Nat) : AS O w (newO O1 w1.heap.size k) w2 f := ⟨h.all.up hb k, h.stp.trans (Stp.up hb k)⟩
theorem AS.put {rb fp : List Nat} (h : AS O w O1 w1 f) (h5 : k < 50 ∨ 100 ≤ k) (hk : Kept rb w1 w2) (hr : ∀ b ∈ rb, b < w1.heap.size → O1 b = k) (hfp : ∀ b ∈ fp, (b < w1.heap.size → O1 b = k) ∧ b < w2.heap.size) (hP : ∀ w', (∀ b ∈ fp, w'.heap[b]? = w2.heap[b]?) → P fp w') : AS O w (newO O1 w1.heap.size k) w2 (updF f k P) :=
  ⟨h.all.put hk hr hfp hP, h.stp.trans (Stp.kept hk hr h5 k)⟩
theorem AS.putB {cs : List Value} {t : TypeId} (h : AS O w O1 w1 f) (h5 : k < 50 ∨ 100 ≤ k) (hp : Put w1 w2 g cs t) (hO : O1 g = k) (hP : ∀ w', w'.heap[g]? = some (.cells cs.toArray t (0, 0)) → P [g] w') : AS O w (newO O1 w1.heap.size k) w2 (updF f k P) :=
  ⟨h.all.putB hp hO hP, h.stp.trans (Stp.kept (rb := [g]) (Kept.put (Kept.refl _ _) hp (.inl (by simp))) (by simpa using fun _ => hO) h5 k)⟩
theorem AS.imp {f' : Nat → List Nat → World → Prop} (h : AS O w O1 w1 f) (hi : ∀ j fp w, f j fp w → f' j fp w) : AS O w O1 w1 f' := ⟨h.all.imp hi, h.stp⟩
end
theorem SV.box (h : SV c O w m) : w.heap[c.gx]? = some (.cells (boxV c m).toArray 87 (0, 0)) ∧ O c.gx = 0 := by
  obtain ⟨fp, ⟨rfl, h1⟩, h2⟩ := (h.all 0).now
  exact ⟨h1, (h2 _ (by simp)).1⟩
theorem SV.onB (h : SV c O w m) : w.heap[m.go]? = some (.cells (onV c.n m.wk).toArray 4 (0, 0)) ∧ O m.go = 6 := by
  obtain ⟨fp, ⟨rfl, h1⟩, h2⟩ := (h.all 6).now
  exact ⟨h1, (h2 _ (by simp)).1⟩
theorem SV.fromB (h : SV c O w m) : w.heap[m.gf]? = some (.cells ((List.range c.n).map m.Vr).toArray 46 (0, 0)) ∧ O m.gf = 4 := by
  obtain ⟨fp, ⟨rfl, h1⟩, h2⟩ := (h.all 4).now
  exact ⟨h1, (h2 _ (by simp)).1⟩
theorem SV.rowI (h : SV c O w m) : rowP c.base c.n m.Vi m.gi m.Vi.ownBlock.toList w ∧ ∀ b ∈ m.Vi.ownBlock.toList, O b = 1 := by
  obtain ⟨fp, h1, h2⟩ := (h.all 1).now
  have h1 : rowP c.base m.k m.Vi m.gi fp w := h1
  rw [h.hk] at h1
  have e := h1.1
  subst e
  exact ⟨h1, fun b hb => (h2 b hb).1⟩
theorem SV.rowD (h : SV c O w m) : rowP c.base c.n m.Vd m.gd m.Vd.ownBlock.toList w ∧ ∀ b ∈ m.Vd.ownBlock.toList, O b = 2 := by
  obtain ⟨fp, h1, h2⟩ := (h.all 2).now
  have h1 : rowP c.base m.k m.Vd m.gd fp w := h1
  rw [h.hk] at h1
  have e := h1.1
  subst e
  exact ⟨h1, fun b hb => (h2 b hb).1⟩
theorem SV.rowT (h : SV c O w m) : rowP c.base c.n m.Vt m.gt m.Vt.ownBlock.toList w ∧ ∀ b ∈ m.Vt.ownBlock.toList, O b = 3 := by
  obtain ⟨fp, h1, h2⟩ := (h.all 3).now
  have h1 : rowP c.base m.k m.Vt m.gt fp w := h1
  rw [h.hk] at h1
  have e := h1.1
  subst e
  exact ⟨h1, fun b hb => (h2 b hb).1⟩
theorem SV.queue (h : SV c O w m) : ∃ fp, QRow c.base m.Vw m.wk fp w ∧ ∀ b ∈ fp, O b = 5 := by
  obtain ⟨fp, h1, h2⟩ := (h.all 5).now
  exact ⟨fp, h1, fun b hb => (h2 b hb).1⟩
theorem SV.setI (h : SV c O w m) (hv : v < c.n) : ∃ fp, PSet c.base (m.gi v) w (m.bi v) fp ∧ ∀ b ∈ fp, O b = 100 + 4 * v := by
  obtain ⟨fp, h1, h2⟩ := (h.all (100 + 4 * v + 0)).now
  rw [comp_at v 0 (by omega)] at h1
  exact ⟨fp, h1.1 rfl (by rw [h.hk]; exact hv), fun b hb => (h2 b hb).1⟩
theorem SV.setD (h : SV c O w m) (hv : v < c.n) : ∃ fp, PSet c.base (m.gd v) w (m.bd v) fp ∧ ∀ b ∈ fp, O b = 100 + 4 * v + 1 := by
  obtain ⟨fp, h1, h2⟩ := (h.all (100 + 4 * v + 1)).now
  rw [comp_at v 1 (by omega)] at h1
  exact ⟨fp, h1.2.1 rfl (by rw [h.hk]; exact hv), fun b hb => (h2 b hb).1⟩
theorem SV.setT (h : SV c O w m) (hv : v < c.n) : ∃ fp, PSet c.base (m.gt v) w (m.bt v) fp ∧ ∀ b ∈ fp, O b = 100 + 4 * v + 2 := by
  obtain ⟨fp, h1, h2⟩ := (h.all (100 + 4 * v + 2)).now
  rw [comp_at v 2 (by omega)] at h1
  exact ⟨fp, h1.2.2.1 rfl (by rw [h.hk]; exact hv), fun b hb => (h2 b hb).1⟩
theorem SV.fromR (h : SV c O w m) (hv : v < c.n) : ∃ fp, QRow c.base (m.Vr v) (m.fr v) fp w ∧ ∀ b ∈ fp, O b = 100 + 4 * v + 3 := by
  obtain ⟨fp, h1, h2⟩ := (h.all (100 + 4 * v + 3)).now
  rw [comp_at v 3 (by omega)] at h1
  exact ⟨fp, h1.2.2.2 rfl hv, fun b hb => (h2 b hb).1⟩
/-- Nothing but new blocks. -/
theorem SV.up (h : SV c O w m) (hb : Below w.heap.size w w1) (k : Nat) : SV c (newO O w.heap.size k) w1 m :=
  ⟨h.all.up hb k, fun b hlt => by rw [newO_old (by have := h.sz; omega)]; exact h.low b hlt, Nat.le_trans h.sz hb.size, h.hk, h.nd, h.wl, h.hn, h.hx⟩
theorem onV_set (n : Nat) (wk : List Nat) (v : Nat) : (onV n wk).set v (.bool true) = onV n (wk ++ [v]) := by
  unfold onV
  rw [range_set]
  congr 1
  funext j
  unfold setN
  by_cases e : j = v <;> simp [e]
theorem onV_get {n : Nat} {wk : List Nat} {v : Nat} (h : v < n) : (onV n wk)[v]? = some (.bool (decide (v ∈ wk))) := by simp [onV, h]
theorem onV_len (n : Nat) (wk : List Nat) : (onV n wk).length = n := by simp [onV]
theorem QRow.one {base : Nat} {V : Value} {xs fp : List Nat} (h : QRow base V xs fp w) : ∃ row : Option Nat, fp = row.toList := by
  rcases h.ex with ⟨_, rfl, _⟩ | ⟨g, _, _, rfl, _⟩
  · exact ⟨none, rfl⟩
  · exact ⟨some g, rfl⟩
theorem grown_of_kept {row : Option Nat} (h : Kept row.toList w w1) : w.grownBy w1 row := ⟨h.os, h.tape, h.output, h.size, fun k hk hne => h.block k hk (by simpa using fun e => hne e.symm)⟩
theorem wa_q {n : Nat} {F : Fm} {o : Oper} {K : Fm → World → Prop} {base : Nat} {V : Value} {xs fp : List Nat} {v : Nat} {c : Call} {x y : Operand} {g1 cc : Nat} {t' : TypeId}
    (h : QRow base V xs fp w) (hb1 : w.heap[g1]? = some (.cells #[.int .i64 (v : Int)] t' (0, 0))) (hop : o.op = .call c) (hcal : c.callee = .builtin .append) (hargs : c.args.toList = [x, y]) (htys : c.argTypes.toList = [46, 46])
    (hx : ev F x = V) (hy : ev F y = .slice (some ⟨g1, 0, none⟩) 1 cc) {d : Nat} (hd : o.dst = some d) (hn : Nat.blt d n = true) (hl : xs.length < 1099511627776) (hbase : base ≤ w.heap.size)
    (k : ∀ A cap w1 fp', QRow base (.slice A (xs.length + 1) cap) (xs ++ [v]) fp' w1 → Kept fp w w1 → (∀ b ∈ fp', b ∈ fp ∨ w.heap.size ≤ b) → K (upd F d (.slice A (xs.length + 1) cap)) w1) : wa Tryd.prog n o F w K := by
  obtain ⟨V', w1, fp', h1, h2, h3, h4⟩ := qap_run tabOk (by rfl) h hb1 hop hcal hargs htys hx hy hl hbase
  obtain ⟨A, cap, rfl, _⟩ := h2.form
  have e : (xs ++ [v]).length = xs.length + 1 := by simp
  rw [e] at h1 h2
  exact ⟨_, _, h1, by rw [hd]; exact hn, by rw [hd]; exact k A cap w1 fp' h2 h3 h4⟩
end
end Go.Proofs.YtkjbkalakafnlaaDoor

/- The orders once more, where operations have guards. -/
namespace Go.Proofs.YtkjbkalakafnlaaDoor
open Go.RowKit
set_option linter.unusedVariables false
set_option linter.unusedSimpArgs false
section
variable {P : Program} {ops : Array Oper} {md : Region.Mode} {C : World → Prop}
def exB2 (md : Region.Mode) (ops : Array Oper) (g n : Nat) : Nat → Array Bool → Bool
  | 0, listed => Region.seqB md ops g n listed
  | f + 1, listed => !(Region.ready md ops listed).isEmpty && (Region.ready md ops listed).all fun i => decide (i < n) && (ops[i]?).isSome && exB2 md ops g n f (listed.setIfInBounds i true)
def exA2 (P : Program) (md : Region.Mode) (ops : Array Oper) (C : World → Prop) (T : Act → World → Prop) : Nat → Array Bool → Act → World → Prop
  | 0, _, a, W => T a W
  | f + 1, listed, a, W => ∀ i ∈ Region.ready md ops listed, ∀ o, ops[i]? = some o →
    if Region.wanted o (yielded ops a.tmps) = true then runsTo P o a W fun v w2 => C w2 ∧ ∀ W', Below w2.heap.size w2 W' → C W' → exA2 P md ops C T f (listed.setIfInBounds i true) (a.put o.dst v) W'
    else exA2 P md ops C T f (listed.setIfInBounds i true) (a.put o.dst undef) W
theorem wpX_of_ex2 {g n : Nat} {T : Act → World → Prop} : ∀ (f : Nat) (listed : Array Bool) (Φ : World → Prop) (a : Act), exB2 md ops g n f listed = true → (∀ W, C W → Φ W → exA2 P md ops C T f listed a W) →
    wpX P md ops C n (fun listed' Φ' a' => Region.seqB md ops g n listed' = true ∧ ∀ W, C W → Φ' W → T a' W) f listed Φ a
  | 0, listed, Φ, a, hB, h => ⟨hB, h⟩
  | f + 1, listed, Φ, a, hB, h => by
    simp only [exB2, Bool.and_eq_true, Bool.not_eq_true', List.isEmpty_eq_false_iff, List.all_eq_true, decide_eq_true_eq] at hB
    refine ⟨hB.1, fun i hi => ?_⟩
    obtain ⟨⟨h1, h2⟩, h3⟩ := hB.2 i hi
    refine ⟨h1, ?_⟩
    cases ho : ops[i]? with
    | none => rw [ho] at h2; simp at h2
    | some o =>
      unfold Proofs.YtkjbkalakafnlaaDoor.xOp
      simp only [ho]
      by_cases hw : Region.wanted o (yielded ops a.tmps) = true
      · rw [if_pos hw]
        refine .inr ⟨fun v W => ∃ w2, Below w2.heap.size w2 W ∧ ∀ W', Below w2.heap.size w2 W' → C W' → exA2 P md ops C T f (listed.setIfInBounds i true) (a.put o.dst v) W', fun v w w' ⟨w2, h1, h2⟩ hb => ⟨w2, bup h1 hb, h2⟩, fun w hwc hΦ => ?_, fun v => wpX_of_ex2 f _ _ _ h3 fun W hW ⟨w2, h1, h2⟩ => h2 W h1 hW⟩
        have := h w hwc hΦ i hi o ho
        rw [if_pos hw] at this
        exact this.mono fun v w2 ⟨h4, h5⟩ => ⟨h4, w2, Below.refl _ _, h5⟩
      · rw [if_neg hw]
        refine wpX_of_ex2 f _ _ _ h3 fun W hW hΦ => ?_
        have := h W hW hΦ i hi o ho
        rwa [if_neg hw] at this
def permB2 (md : Region.Mode) (ops : Array Oper) (g n f : Nat) : List Nat → Array Bool → Bool
  | [], listed => exB2 md ops g n f listed
  | k :: qs, listed => decide (k < n) && (Region.ready md ops listed).contains k && Region.free md ops listed k && permB2 md ops g n f qs (listed.setIfInBounds k true)
theorem wpX_perm2 {n g f : Nat} {T : Act → World → Prop} (hsel : Region.noSelect ops = true) (hs : Region.sinkB md ops n = true) (hc : Region.chainB md ops n = true) (hn : n < ops.size) :
    ∀ (qs : List Nat) (listed : Array Bool) (Φ : World → Prop) (a : Act), HeadInv md ops n listed → permB2 md ops g n f qs listed = true →
    wpQB P ops C (fun a' => ∀ W, C W → Φ W → exA2 P md ops C T f (setAllB qs listed) a' W) (opsAt ops qs) a →
    wpX P md ops C n (fun listed' Φ' a' => Region.seqB md ops g n listed' = true ∧ ∀ W, C W → Φ' W → T a' W) (qs.length + f) listed Φ a
  | [], listed, Φ, a, inv, hB, h => by
    rw [List.length_nil, Nat.zero_add]
    exact wpX_of_ex2 f listed Φ a hB h
  | k :: qs, listed, Φ, a, inv, hB, h => by
    simp only [permB2, Bool.and_eq_true, decide_eq_true_eq] at hB
    obtain ⟨⟨⟨hkn, hr⟩, hf⟩, hB'⟩ := hB
    have hr' : k ∈ Region.ready md ops listed := by simpa using hr
    obtain ⟨o, h0⟩ : ∃ o, ops[k]? = some o := ⟨ops[k]'(by omega), by simp⟩
    have e1 : opsAt ops (k :: qs) = o :: opsAt ops qs := by simp [opsAt, h0]
    rw [e1] at h
    have key : ∃ v, YieldsB P ops C o v a ∧ wpQB P ops C (fun a' => ∀ W, C W → Φ W → exA2 P md ops C T f (setAllB (k :: qs) listed) a' W) (opsAt ops qs) (a.put o.dst v) := by
      unfold wpQB at h
      by_cases hw : Region.wanted o (yielded ops a.tmps) = true
      · rw [if_pos hw] at h
        obtain ⟨v, h1, h2⟩ := h
        exact ⟨v, .inl ⟨hw, h1⟩, h2⟩
      · rw [if_neg hw] at h
        exact ⟨undef, .inr ⟨by simpa using hw, rfl⟩, h⟩
    obtain ⟨v, hy, hK⟩ := key
    have e : (k :: qs).length + f = qs.length + f + 1 := by simp; omega
    rw [e]
    exact wpX_first h0 (Region.noSelect_spec hsel) hs hc hn hkn (fun listed' Φ' a' hL => seqB_ready hL.1) (qs.length + f) listed Φ a inv (Region.free_spec h0 hf) hr' hy
      (wpX_perm2 hsel hs hc hn qs _ Φ _ (inv.set hr' hkn) hB' hK)
def permAll2 (ops : Array Oper) (qs : List Nat) (f n : Nat) : Bool :=
  Region.noSelect ops && decide (n < ops.size) && decide (qs.length + f = n) && Region.sinkB .any ops n && Region.chainB .any ops n && permB2 .any ops (ops.size - n) n f qs (Array.replicate ops.size false)
theorem wp_region_perm2 {id : Nat} {Q : Exit → Act → World → Prop} {a : Act} {w : World} {l : List Oper} (qs : List Nat) (f n : Nat) (hC : Stable C) (hm : P.follows .mixedOrders = true) (hB : permAll2 l.toArray qs f n = true) (hCw : C w)
    (h : wpQB P l.toArray C (fun a' => ∀ W, C W → Below w.heap.size w W → exA2 P .any l.toArray C (wpList P l.toArray Q (l.drop n)) f (setAllB qs (Array.replicate l.toArray.size false)) a' W) (opsAt l.toArray qs) a) : (Code.region id l.toArray true).wp P Q a w := by
  simp only [permAll2, Bool.and_eq_true, decide_eq_true_eq] at hB
  obtain ⟨⟨⟨⟨⟨hsel, hn⟩, hqf⟩, hs⟩, hc⟩, hperm⟩ := hB
  have hdl : (l.drop n).length = l.toArray.size - n := by simp
  have inv0 : HeadInv .any l.toArray n (Array.replicate l.toArray.size false) :=
    ⟨by simp, fun j oj _ hl => (by rw [getD_replicate_false] at hl; cases hl), fun t _ ht => getD_in (by simpa using ht) (getD_replicate_false _ _)⟩
  have H := wpX_perm2 (P := P) (C := C) (md := .any) (g := l.toArray.size - n) (T := wpList P l.toArray Q (l.drop n)) hsel hs hc hn qs _ (fun W => Below w.heap.size w W) a inv0 hperm h
  refine wp_region_any hm ?_
  have hst : Stable (fun W => Below w.heap.size w W) := fun _ _ h h' => bup h h'
  have hΦ : Below w.heap.size w { w with drawn := w.drawn + 1 } := ⟨rfl, rfl, rfl, Nat.le_refl _, fun _ _ => rfl⟩
  have hw' : C { w with drawn := w.drawn + 1 } := hC _ _ hCw ⟨rfl, rfl, rfl, Nat.le_refl _, fun _ _ => rfl⟩
  have := wpAny_of_X hC (Q' := Q) (g := l.toArray.size - n) (L := fun listed' Φ' a' => Region.seqB .any l.toArray (l.toArray.size - n) n listed' = true ∧ ∀ W, C W → Φ' W → wpList P l.toArray Q (l.drop n) a' W) (fun listed Φ a' W hW hΦ hL => by
    have := wpAny_of_seq (md := .any) (Q' := Q) (l.drop n) n listed a' W (fun j => by simp [List.getElem?_drop]) (by rw [hdl]; exact hL.1) (hL.2 W hW hΦ)
    rwa [hdl] at this) _ _ (fun W => Below w.heap.size w W) a _ hst hw' hΦ H
  have e : qs.length + f + (l.toArray.size - n) = l.toArray.size := by omega
  rwa [e] at this
end
section
variable {P : Program} {T : Nat → Option TI} {n : Nat} {Q : Post} {F : Fm} {w : World} {ops : Array Oper} {o : Oper} {C : World → Prop}
def opF2 (P : Program) (n : Nat) (l : List Oper) (i : Nat) (F : Fm) (w : World) (K Ku : Fm → World → Prop) : Prop :=
  match l[i]? with
  | none => True
  | some o => match o.guard with
    | none => wb P n o F w K
    | some (j, b) => match l[j]? with
      | none => False
      | some oj => match oj.dst, o.dst with
        | some t, some d => bif Nat.blt t n && Nat.blt d n then (match F t with
          | .bool c => gs c (match b with | true => wb P n (ung o) F w K | false => Ku (upd F d undef) w) (match b with | true => Ku (upd F d undef) w | false => wb P n (ung o) F w K)
          | _ => False) else False
        | _, _ => False
def exF2 (P : Program) (n : Nat) (l : List Oper) (C : World → Prop) (T : Fm → World → Prop) : Nat → List Bool → Fm → World → Prop
  | 0, _, F, W => T F W
  | f + 1, listed, F, W => allL (fun i => opF2 P n l i F W (fun F2 w2 => C w2 ∧ ∀ W', Below w2.heap.size w2 W' → C W' → exF2 P n l C T f (listed.set i true) F2 W') fun F2 W2 => exF2 P n l C T f (listed.set i true) F2 W2) (rdyL l listed)
theorem wanted_eq {l : List Oper} {o oj : Oper} {j : Nat} {b c : Bool} {t : Tmp} {a : Act} (ha : Fr a n F) (hg : o.guard = some (j, b)) (hj : l[j]? = some oj) (ht : oj.dst = some t) (hb : F t = .bool c) (hn : Nat.blt t n = true) : Region.wanted o (yielded l.toArray a.tmps) = (c == b) := by
  have hlt : t < a.tmps.size := by rw [ha.size]; exact nblt hn
  have h1 := ha.get t
  rw [hb, Array.getD_eq_getD_getElem?, Array.getElem?_eq_getElem hlt] at h1
  have hj' : l.toArray[j]? = some oj := by simpa using hj
  simp only [Region.wanted, hg, yielded, hj', Option.bind_some, ht, Array.getElem?_eq_getElem hlt]
  simp at h1
  simp [h1]
theorem runs_ung {a : Act} {R : Value → World → Prop} (h : runsTo P (ung o) a w R) : runsTo P o a w R := h
theorem exA2_of {l : List Oper} {T : Fm → World → Prop} {T' : Act → World → Prop} (hT' : ∀ a F W, Fr a n F → T F W → T' a W) : ∀ (f : Nat) (listed : List Bool) (a : Act) (F : Fm) (W : World), Fr a n F → exF2 P n l C T f listed F W → exA2 P .any l.toArray C T' f listed.toArray a W
  | 0, _, a, F, W, ha, h => hT' a F W ha h
  | f + 1, listed, a, F, W, ha, h => fun i hi o ho => by
    rw [rdyL_eq] at hi
    have h1 := allL_mem h i hi
    unfold opF2 at h1
    have ho' : l[i]? = some o := by simpa using ho
    rw [ho'] at h1
    have e : (listed.set i true).toArray = listed.toArray.setIfInBounds i true := by simp
    have fin : ∀ {o' : Oper}, o'.dst = o.dst → wb P n o' F W (fun F2 w2 => C w2 ∧ ∀ W', Below w2.heap.size w2 W' → C W' → exF2 P n l C T f (listed.set i true) F2 W') → runsTo P o' a W fun v w2 => C w2 ∧ ∀ W', Below w2.heap.size w2 W' → C W' → exA2 P .any l.toArray C T' f (listed.toArray.setIfInBounds i true) (a.put o.dst v) W' := fun {o'} he hw => by
      refine (hw.runs ha).mono fun v w2 ⟨h3, h4⟩ => ⟨h3, fun W' hW' hC' => ?_⟩
      have hd : dstOk n o.dst = true := by rw [← he]; exact hw.dst
      rw [he] at h4
      have := exA2_of hT' f _ _ _ W' (ha.put hd v) (h4 W' hW' hC')
      rwa [e] at this
    cases hg : o.guard with
    | none =>
      simp only [hg] at h1
      rw [if_pos (by simp [Region.wanted, hg])]
      exact fin rfl h1
    | some jb =>
      obtain ⟨j, b⟩ := jb
      simp only [hg] at h1
      cases hj : l[j]? with
      | none => rw [hj] at h1; exact h1.elim
      | some oj =>
        rw [hj] at h1
        simp only at h1
        cases ht : oj.dst with
        | none => rw [ht] at h1; exact h1.elim
        | some t =>
          cases hd : o.dst with
          | none => rw [ht, hd] at h1; exact h1.elim
          | some d =>
            rw [ht, hd] at h1
            simp only at h1
            cases hb : (Nat.blt t n && Nat.blt d n) with
            | false => rw [hb] at h1; exact h1.elim
            | true =>
              rw [hb] at h1
              simp only [cond_true] at h1
              have hbb := Bool.and_eq_true_iff.1 hb
              cases hv : F t <;> rw [hv] at h1 <;> try exact h1.elim
              rename_i c
              have hw := wanted_eq ha hg hj ht hv hbb.1
              rw [hw]
              have un : exF2 P n l C T f (listed.set i true) (upd F d undef) W → exA2 P .any l.toArray C T' f (listed.toArray.setIfInBounds i true) (a.put (some d) undef) W := fun hk => by
                have h5 := ha.put (d := some d) (by exact hbb.2) undef
                have := exA2_of hT' f _ _ _ W h5 hk
                rwa [e] at this
              have fn := fin (o' := ung o) rfl
              rw [hd] at fn
              cases c <;> cases b <;> simp only [gs] at h1
              · rw [if_pos (by decide)]; exact runs_ung (fn h1)
              · rw [if_neg (by decide)]; exact un h1
              · rw [if_neg (by decide)]; exact un h1
              · rw [if_pos (by decide)]; exact runs_ung (fn h1)
theorem wc_qg {id : Nat} {l : List Oper} (qs : List Nat) (f m : Nat) (hC : Stable C) (hT : TabOk P T) (hm : P.follows .mixedOrders = true) (hB : permAll2 l.toArray qs f m = true) (hCw : C w)
    (h : runQ P T n l.toArray C (opsL l qs) (fun F' => ∀ w1, C w1 → Below w.heap.size w w1 → exF2 P n l C (fun F2 W => runG P T n l.toArray (l.drop m) Q F2 W) f (setAllL qs (List.replicate l.length false)) F' w1) F) : wc P n (.region id l.toArray true) Q F w := by
  unfold wc
  intro a ha
  have hq := (run_q hT h).go a ha
  rw [← opsL_eq] at hq
  refine wp_region_perm2 qs f m hC hm hB hCw (wpQB_mono ?_ hq)
  rintro a' ⟨F', h2, h3⟩ w1 hw1 hb1
  have := exA2_of (T' := wpList P l.toArray (lift n Q) (l.drop m)) (T := fun F2 W => runG P T n l.toArray (l.drop m) Q F2 W) (fun a F W ha h => ?_) _ _ _ _ _ h2 (h3 w1 hw1 hb1)
  · rw [← setAllL_eq] at this
    have e : (List.replicate l.length false).toArray = Array.replicate l.toArray.size false := by simp
    rwa [e] at this
  · have := run_l hT h
    unfold wl at this
    exact this _ ha
end
end Go.Proofs.YtkjbkalakafnlaaDoor

/- Rows whose elements look at elder blocks; loads in drawn regions with several makes. -/
namespace Go.Proofs.YtkjbkalakafnlaaDoor
open Go.RowKit
set_option linter.unusedVariables false
set_option linter.unusedSimpArgs false
/-- A row of the call's own whose elements look at elder blocks alone. -/
structure LRow {α : Type} [Inhabited α] (sz : Nat) (d : Dec α) (e : TypeId) (base : Nat) (w0 w : World) (v : Value) (xs : List α) : Prop where
  own : ∃ flat, w.ownsRow base e sz v xs.length flat ∧ ∀ w', Below w0.heap.size w0 w' → Elems sz d w' flat xs
section
variable {α : Type} [Inhabited α] {sz : Nat} {d : Dec α} {e : TypeId} {base : Nat} {w0 w w1 : World} {v v' : Value} {xs : List α}
theorem LRow.nil (sz : Nat) (d : Dec α) (e : TypeId) (base : Nat) (w0 w : World) : LRow sz d e base w0 w (.slice none 0 0) ([] : List α) := ⟨[], own_nil .., fun _ _ => Elems.nil ..⟩
theorem LRow.up (h : LRow sz d e base w0 w v xs) (hb : Below w.heap.size w w1) : LRow sz d e base w0 w1 v xs := by
  obtain ⟨flat, h1, h2⟩ := h.own
  exact ⟨flat, h1.kept (grown_of hb) (Classical.em _), h2⟩
theorem LRow.row (h : LRow sz d e base w0 w v xs) (hb : Below w0.heap.size w0 w) : ∃ A c, v = .slice A xs.length c ∧ xs.length ≤ c ∧ RowR sz d w A xs := by
  obtain ⟨flat, h1, h2⟩ := h.own
  exact row_of_own h1 rfl (h2 w hb)
theorem LRow.rowAt {A : Option Addr} {n c : Nat} (h : LRow sz d e base w0 w (.slice A n c) xs) (hb : Below w0.heap.size w0 w) : RowR sz d w A xs := by
  obtain ⟨A', c', e1, _, h2⟩ := h.row hb
  injection e1 with e1 _ _
  subst e1
  exact h2
end
section
variable {P : Program} {T : Nat → Option TI} {n : Nat} {F : Fm} {w : World} {o : Oper} {K : Fm → World → Prop}
theorem wb_L (hT : TabOk P T) {t : TypeId} {x : Operand} {a : Addr} {v : Value} (hop : o.op = .load t x) (hx : ev F x = .pointer (some a)) (h1 : oneT T t = true) {d : Nat} (hd : o.dst = some d) (hn : Nat.blt d n = true) (hc : w.cell? a = some v) (k : K (upd F d v) w) : wb P n o F w K :=
  wb_val hd hn (by simp [execOp, hop, hx, Instr.loadAt, Instr.sureAddr, run_load_one hT h1 hc]) k
theorem wb_Lg (hT : TabOk P T) {t t' : TypeId} {x : Operand} {g off : Nat} {cs : Array Value} {fr : Nat × Nat} {v : Value} (hb : w.heap[g]? = some (.cells cs t' fr)) (hop : o.op = .load t x) (hx : ev F x = .pointer (some ⟨g, off, none⟩)) (h1 : oneT T t = true) {d : Nat} (hd : o.dst = some d) (hn : Nat.blt d n = true) (hv : cs[off]? = some v) (k : K (upd F d v) w) : wb P n o F w K :=
  wb_L hT hop hx h1 hd hn (cell_blk hb hv) k
theorem wb_Lag (hT : TabOk P T) {t t' : TypeId} {x : Operand} {g : Nat} {cs : List Value} {fr : Nat × Nat} (hb : w.heap[g]? = some (.cells cs.toArray t' fr)) (hop : o.op = .load t x) (hx : ev F x = .pointer (some ⟨g, 0, none⟩)) (h1 : aggT T t cs.length = true) {d : Nat} (hd : o.dst = some d) (hn : Nat.blt d n = true) (k : K (upd F d (.agg cs.toArray)) w) : wb P n o F w K := by
  refine wb_val hd hn ?_ k
  have h2 := aggT_run (P := P) (w := w) hT h1
  have h3 := run_loadCells (P := P) cs 0 #[] (cellsAt_blk hb cs 0 0 (by simp))
  simp [execOp, hop, hx, Instr.loadAt, Instr.sureAddr, loadVar, h2, loadCells, h3]
theorem wb_add {x y : Operand} {xt yt : TypeId} {a b : Int} (hop : o.op = .binOp .add xt x y yt) (hx : ev F x = .int .i64 a) (hy : ev F y = .int .i64 b) {d : Nat} (hd : o.dst = some d) (hn : Nat.blt d n = true) (h1 : -9223372036854775808 ≤ a + b) (h2 : a + b ≤ 9223372036854775807) (k : K (upd F d (.int .i64 (a + b))) w) : wb P n o F w K :=
  wb_val hd hn (by simp [execOp, hop, hx, hy, eqGuard, binOp, Op.intArith, wrap_in h1 h2]) k
end
end Go.Proofs.YtkjbkalakafnlaaDoor
