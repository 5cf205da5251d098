/- Several texts of one claim in one file: HB18 L1502 L1503 R0. -/
import Derived.Test.YtjggjhgbobmkhaaY18
import Derived.Test.YtjggjhgbobmkhaaY14
import Derived.Test.YtjggjhgbobmkhaaY13
import Derived.Test.YtjggjhgbobmkhaaY10
import Derived.Test.YtjggjhgbobmkhaaY1
/- Labels and sources of a system that may be. -/
namespace Go.Proofs.Ytjggjhgbobmkhaa
open Go.RowKit
set_option linter.unusedVariables false
set_option linter.unusedSimpArgs false
theorem bases_small {n : Nat} {xs : List Cell} {ys : List Con} (hr : rightB ⟨n, xs, ys⟩ = true) : ∀ v, v < n → ((gBases n xs ys)[v]!).length ≤ 1048576 := by
  intro v hv
  simp only [rightB, bigOk, Bool.and_eq_true, decide_eq_true_eq, List.all_eq_true] at hr
  have h := (gfold_small (n : Int) (m := 0) ys (List.replicate (2 * (n : Int).toNat) [], List.replicate (n : Int).toNat []) (fun l hl => by rw [getElem!_pos _ l hl]; simp) (fun l hl => by rw [getElem!_pos _ l hl]; simp)).2 v (by simpa using hv)
  have h2 : ((gBases n xs ys)[v]!).length ≤ 0 + ys.length := h
  omega
theorem Canon.imp {n : Nat} {l : Nat → Int} {E E' : Nat → Nat → Prop} {Z Z' : Nat → Prop} (h : Canon n l E Z) (hE : ∀ v u, v < n → u < n → (E v u ↔ E' v u)) (hZ : ∀ v, v < n → (Z v ↔ Z' v)) : Canon n l E' Z' :=
  ⟨fun v hv => (h.none v hv).trans (hZ v hv), fun v u hv hu => (h.same v u hv hu).trans (hE v u hv hu), h.le⟩
abbrev SrcE (n nc : Nat) (s : Sys) (v u : Nat) : Prop := ∀ j, Src n nc s v j ↔ Src n nc s u j
abbrev SrcZ (n nc : Nat) (s : Sys) (v : Nat) : Prop := ∀ j, ¬ Src n nc s v j
section
variable {n : Nat} {xs : List Cell} {ys : List Con}
theorem right_few (hr : rightB ⟨n, xs, ys⟩ = true) : n ≤ 16384 ∧ xs.length ≤ 16384 ∧ ys.length ≤ 131072 := by
  simp only [rightB, bigOk, Bool.and_eq_true, decide_eq_true_eq, List.all_eq_true] at hr
  omega
theorem huLabelsR (A B C : Option Addr) (w : World) (hr : rightB ⟨n, xs, ys⟩ = true) (hA : RRows w A (gInto n xs ys)) (hB : RRows w B (gBases n xs ys)) (hC : RowR 1 dB w C (gLoose n xs ys)) :
    Calls Try.prog 16 #[.agg #[.int .i64 n, .slice A (2 * n) (2 * n), .slice B n n, .slice C (2 * n) (2 * n)], .int .i64 xs.length] w fun e w' => ∃ go hl, e = .returned (.slice (some ⟨go, 0, none⟩) n n) ∧ w'.heap[go]? = some (.cells (fZ n hl).toArray 3 (0, 0)) ∧
      Canon n hl (SrcE n xs.length ⟨n, xs, ys⟩) (SrcZ n xs.length ⟨n, xs, ys⟩) ∧ Below w.heap.size w w' := by
  have hG : GOk n (gInto n xs ys) (gBases n xs ys) (gLoose n xs ys) := gok hr
  have h := huLabels n xs.length (gInto n xs ys) (gBases n xs ys) (gLoose n xs ys) A B C (2 * n) n (2 * n) w hG (right_few hr).2.1 (bases_small hr) hA hB hC
  rw [hG.ni, hG.nb, hG.nl] at h
  refine h.mono ?_
  rintro e w' ⟨go, hl, he, hrow, hcan, hb⟩
  exact ⟨go, hl, he, hrow, hcan.imp (fun v u hv hu => forall_congr' fun j => by rw [gs_src hr hv, gs_src hr hu]) (fun v hv => forall_congr' fun j => by rw [gs_src hr hv]), hb⟩
end
section
variable {B g : Nat} {w : World} {P : Nat → Prop}
end
end Go.Proofs.Ytjggjhgbobmkhaa

/- The walk of GraphOf. -/
namespace Go.Proofs.Ytjggjhgbobmkhaa
open Go.RowKit
set_option linter.unusedVariables false
set_option linter.unusedSimpArgs false
set_option maxRecDepth 100000
end Go.Proofs.Ytjggjhgbobmkhaa

/- The walk of GraphStores. -/
namespace Go.Proofs.Ytjggjhgbobmkhaa
open Go.RowKit
set_option linter.unusedVariables false
set_option linter.unusedSimpArgs false
set_option maxRecDepth 100000
end Go.Proofs.Ytjggjhgbobmkhaa

/- The last steps of a law's row, once for all laws: arguments opened, what is read again. -/
namespace Go.Proofs.Ytjggjhgbobmkhaa
open Go.ChangeShapes Go.WideShapes Go.ChangeAt Go.RowKit
set_option linter.unusedVariables false
set_option linter.unusedSimpArgs false
set_option maxRecDepth 100000
section
variable {H : Type} {enc : TypeId × Value → H} {W : World} {base : Nat}
end
end Go.Proofs.Ytjggjhgbobmkhaa
