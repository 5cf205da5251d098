/- least.add, the reference's Flow: all of one row comes into another one. -/
import Derived.Test.YtomldckplkecbaaXEM
namespace Go.Proofs.Ytomldckplkecbaa
open Go.RowKit
set_option linter.unusedVariables false
set_option linter.unusedSimpArgs false
set_option maxRecDepth 100000
def flowTo (M : Mat) (t f k : Nat) : Prop := ∀ o, o < k → mg M f o = true → mg M t o = true
section
variable {n nc : Nat} {tt fr : Int} {M M' : Mat} {b : Bool} {k : Nat}
theorem flow_set (hM : Shape n nc M) (hT : Tr n nc (flowP tt fr) (flowTo M tt.toNat fr.toNat k) M M' b) (h0 : 0 ≤ tt) (h1 : 0 ≤ fr) (ht : tt < n) (hk : k < nc) (hy : mg M' fr.toNat k = true) (hno : mg M' tt.toNat k = false) :
    Tr n nc (flowP tt fr) (flowTo M tt.toNat fr.toNat (k + 1)) M (setT M' tt.toNat k) true := by
  have h2 : Tr n nc (fun N => mg N fr.toNat k = true → mg N tt.toNat k = true) (mg M' fr.toNat k = true → mg M' tt.toNat k = true) M' (setT M' tt.toNat k) true :=
    Tr.one hT.sh (by omega) hk hno fun N hN hp => hp (hN _ _ hy)
  have := hT.step hM h2 (fun N _ hp => hp h0 h1 k) (Q' := flowTo M tt.toNat fr.toNat (k + 1)) (fun q p o ho hm => by
    rcases Nat.lt_or_ge o k with h | h
    · exact q o h hm
    · have : o = k := by omega
      subst this
      exact p hm)
  rwa [Bool.or_true] at this
theorem flow_same (hT : Tr n nc (flowP tt fr) (flowTo M tt.toNat fr.toNat k) M M' b) (hn : mg M' fr.toNat k = true → mg M' tt.toNat k = true) : Tr n nc (flowP tt fr) (flowTo M tt.toNat fr.toNat (k + 1)) M M' b :=
  hT.weak fun _ e q o ho hm => by
    rcases Nat.lt_or_ge o k with h | h
    · exact q o h hm
    · have : o = k := by omega
      subst this
      subst e
      exact hn hm
theorem flow_end (hM : Shape n nc M) (hT : Tr n nc (flowP tt fr) (flowTo M tt.toNat fr.toNat nc) M M' b) : Tr n nc (flowP tt fr) (flowP tt fr M) M M' b :=
  hT.weak fun _ _ q _ _ o hm => by
    by_cases ho : o < nc
    · exact q o ho hm
    · rw [mg_out hM (by omega)] at hm
      cases hm
end
end Go.Proofs.Ytomldckplkecbaa
