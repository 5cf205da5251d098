/- Several texts of one claim in one file: HS18 EW18 Y03. -/
import Derived.Test.YtjggjhgbobmkhaaC15
import Derived.Test.YtjggjhgbobmkhaaC14
import Derived.StringKeys
import Derived.Laws.BytesString
import Derived.Laws.StructEq
/- The walk of hu.Sources. -/
namespace Go.Proofs.Ytjggjhgbobmkhaa
open Go.RowKit
set_option linter.unusedVariables false
set_option linter.unusedSimpArgs false
set_option maxRecDepth 100000
theorem run_cutw {P : Program} {T : Nat → Option TI} {n : Nat} {Q : Post} {F : Fm} {w : World} {X : Type} (S : X → List (Nat × Value)) (R : X → World → Prop) {x y : Code} (tail : ∀ z G w, R z w → runC P T n y Q (upds G (S z)) w)
    (k : ∀ yv : Code, (∀ z F' w', holds F' (S z) → R z w' → runC P T n yv Q F' w') → runC P T n (.seq x yv) Q F w) : runC P T n (.seq x y) Q F w :=
  k y fun z F' w' h1 h2 => by have := tail z F' w' h2; rwa [upds_of_holds h1] at this
set_option maxHeartbeats 32000000 in
theorem huSources (vars nc : Nat) (into bases : List (List Int)) (lo : List Bool) (A B C : Option Addr) (ca cb cc : Nat) (w : World) (hG : GOk vars into bases lo) (hnc : nc ≤ 16384) (hbl : ∀ v, v < vars → (bases[v]!).length ≤ 1048576) (hA : RRows w A into) (hB : RRows w B bases) (hC : RowR 1 dB w C lo) :
    Calls Try.prog 21 #[.agg #[.int .i64 vars, .slice A into.length ca, .slice B bases.length cb, .slice C lo.length cc], .int .i64 nc] w fun e w' => ∃ go f, e = .returned (.slice (some ⟨go, 0, none⟩) vars vars) ∧ w'.heap[go]? = some (.cells (pvs vars f).toArray 50 (0, 0)) ∧
      (∀ v, v < vars → ∃ g, f v = .pointer (some ⟨g, 0, none⟩) ∧ CS w.heap.size g w' (GS vars nc into bases lo v)) ∧ Below w.heap.size w w' := by
  have hsm := hG.small
  have hni := hG.ni
  have hnb := hG.nb
  have hnl := hG.nl
  obtain ⟨N, hN⟩ : ∃ N, N = into.length := ⟨_, rfl⟩
  refine enterR (args := [.agg #[.int .i64 vars, .slice A into.length ca, .slice B bases.length cb, .slice C lo.length cc], .int .i64 nc]) tabOk Try.func21 rfl Try.ntmps21 rfl ?_; conv => whnf
  refine wl_box rfl rfl rfl rfl rfl rfl ?_
  intro g1 w1 hn1
  have hb1 := hn1.blk
  refine run_l tabOk ?_
  conv => whnf
  (repeat' (first | (refine wl_Lg tabOk hb1 rfl rfl rfl rfl rfl rfl rfl (run_l tabOk ?_); conv => whnf) | ((first | refine wl_add rfl rfl rfl rfl rfl rfl (by omega) (by omega) (run_l tabOk ?_) | refine gs_dt (by first | assumption | omega) ?_ | refine gs_df (by first | assumption | omega) ?_) <;> conv => whnf) | refine fin1 rfl rfl ?_))
  refine wl_C fn36 (kFind into A ca w1 (hA.up stays_Ints hn1.below) (by omega)) rfl rfl rfl rfl rfl rfl rfl ?_
  rintro _ w5 ⟨⟨kn, of, Ak, ck, go, rfl, hK, hrk, hcn, hof⟩, hB5⟩
  have hbx : w5.heap[g1]? = some (.cells #[.int .i64 vars, .slice A into.length ca, .slice B bases.length cb, .slice C lo.length cc] 36 (0, 0)) := blk_up hB5 hb1
  have hBw := bup hn1.below hB5
  have hA := hA.up stays_Ints hBw
  have hB := hB.up stays_Ints hBw
  have hC := hC.up stays_B hBw
  clear hn1 hb1 hB5
  have rd : ∀ (wb : World), Below w5.heap.size w5 wb → ∀ j, j < into.length → wb.cell? ((⟨go, 0, none⟩ : Addr).add (j * 1)) = some (.int .i64 (of j : Int)) := fun wb hBb j hj => by
    obtain ⟨z, ad3, ⟨hz3⟩, e3, hc4, _, _⟩ := intsE (hof.up (stays_I _) hBb) j (by rw [ofI_len]; exact hj)
    rw [ofI_at _ hj] at hz3
    subst hz3
    injection e3 with e3
    subst e3
    exact hc4
  obtain ⟨K, hKn⟩ : ∃ K, K = kn.length := ⟨_, rfl⟩
  rw [← hN] at hof
  have hKN : K ≤ N := by
    rw [hKn, hN]
    refine inj_le (fun k => if hk : k < kn.length then (hK.rep hk).choose else 0) (fun k hk => ?_) (fun i j hi hj e => ?_)
    · simp only [hk, dif_pos]
      exact (hK.rep hk).choose_spec.1
    · simp only [hi, hj, dif_pos] at e
      have h1 := (hK.rep hi).choose_spec.2
      have h2 := (hK.rep hj).choose_spec.2
      rw [e] at h1
      omega
  obtain ⟨M, hMd⟩ : ∃ M : Nat → Nat → Prop, M = KSrc vars nc into bases lo kn := ⟨_, rfl⟩
  have hMat : ∀ p v j, p < K → v ∈ kn[p]! → (M p j ↔ GS vars nc into bases lo v j) := fun p v j hp hv => by rw [hMd]; exact ks_at hG.ri hK (by omega) hv
  have hMno : ∀ p j, p < K → (M p j ↔ ∃ u ∈ kn[p]!, NodeP vars nc into bases lo of p u j) := fun p j hp => by rw [hMd]; exact ks_nodes hG.ri hK (by omega)
  clear hMd
  refine ⟨_, rfl, run_l tabOk ?_⟩
  rw [← hKn, ← hN]
  conv => whnf
  (repeat' (first | ((first | refine wl_add rfl rfl rfl rfl rfl rfl (by omega) (by omega) (run_l tabOk ?_) | refine gs_dt (by first | assumption | omega) ?_ | refine gs_df (by first | assumption | omega) ?_) <;> conv => whnf) | refine fin1 rfl rfl ?_))
  refine wl_mk (m := K) tabOk 50 1 8 rfl rfl rfl rfl rfl rfl rfl rfl rfl (by omega) (by omega) ?_
  intro gl w6 hn6
  refine run_l tabOk ?_
  conv => whnf
  (repeat' (first | ((first | refine wl_add rfl rfl rfl rfl rfl rfl (by omega) (by omega) (run_l tabOk ?_) | refine gs_dt (by first | assumption | omega) ?_ | refine gs_df (by first | assumption | omega) ?_) <;> conv => whnf) | refine fin1 rfl rfl ?_))
  have hM : HM w5 gl K 0 (fun _ => .pointer none) M w6 := ⟨hn6.below, Nat.le_of_eq hn6.at_.symm, by rw [← pvs_zero]; exact hn6.blk, fun p hp => absurd hp (Nat.not_lt_zero p)⟩
  clear hn6
  refine wc_ends 0 (fun _ _ => False) (X := Nat → Value) (fun f => [(1, .int .i64 nc), (2, .pointer (some ⟨g1, 0, none⟩)), (6, .slice (some ⟨go, 0, none⟩) N N), (7, .slice (some ⟨gl, 0, none⟩) K K)]) (fun f wi => HM w5 gl K K f M wi) ?_ (fun _ _ h => h.elim) ?_
  · refine lp_loop tabOk (X := Nat × (Nat → Value)) (fun x => [(1, .int .i64 nc), (2, .pointer (some ⟨g1, 0, none⟩)), (6, .slice (some ⟨go, 0, none⟩) N N), (7, .slice (some ⟨gl, 0, none⟩) K K), (26, .slice Ak K ck), (27, .int .i64 (K : Int)), (28, .int .i64 (x.1 : Int))]) (fun x wi => x.1 ≤ K ∧ HM w5 gl K x.1 x.2 M wi) (fun x => K - x.1) (0, fun _ => .pointer none) ⟨rfl, rfl, rfl, rfl, rfl, rfl, rfl, trivial⟩ ⟨by simp, hM⟩ ?_
    clear hM
    rintro ⟨k, f⟩ G wr ⟨hk, hM⟩
    simp only at hk hM
    by_cases hlt : k < K
    · obtain ⟨l, hl⟩ : ∃ l, l = kn[k]! := ⟨_, rfl⟩
      have hlN : l.length ≤ N := by
        rw [hl, hN]
        refine nodup_lenK ?_ fun v hv => ((hK.kn k (by omega)).2.2 v hv).1
        exact ((hK.kn k (by omega)).2.1).imp fun {a b} hab e => by omega
      obtain ⟨x0, ad0, B0, cl, ⟨hx0⟩, hA0, hrow0, _, ⟨hR0⟩⟩ := rowsE (hrk.up stays_Ints hM.below) k (by rw [knI_len]; omega)
      rw [knI_at (by omega), ← hl] at hx0
      have hx0l : x0.length = l.length := by rw [← hx0, List.length_map]
      rw [hx0l] at hrow0
      subst hA0
      have hdown : ∀ v, v ∈ l → v < N ∧ ∀ x ∈ into[v]!, of x.toNat ≤ k := fun v hv => by
        rw [hN]
        exact hK.down hG.ri (by omega) (by rw [← hl]; exact hv)
      have hlne : 0 < l.length := by
        rw [hl]
        exact List.length_pos_iff.2 (hK.kn k (by omega)).1
      obtain ⟨adl, hadl⟩ : ∃ adl, B0 = some adl := by
        obtain ⟨ad, cs, e, _⟩ := row_at hR0 0 (by omega)
        exact ⟨ad, e⟩
      subst hadl
      have hR5 : ∀ wi, Below wr.heap.size wr wi → ∀ i, i < l.length → wi.cell? (adl.add (i * 1)) = some (.int .i64 (l[i]! : Int)) := fun wi hb i hi => by
        obtain ⟨y, ad, ⟨hy⟩, e, hc, _, _⟩ := intsE hR0 i (by omega)
        injection e with e
        subst e
        rw [← hx0, castI_at hi] at hy
        subst hy
        exact cell_up hb hc
      have hMk : ∀ j, M k j ↔ ∃ u ∈ l, NodeP vars nc into bases lo of k u j := fun j => by rw [hl]; exact hMno k j hlt
      conv => whnf
      (repeat' (first | (refine wl_L tabOk rfl rfl rfl rfl rfl rfl hrow0 (run_l tabOk ?_); conv => whnf) | (refine wl_Xn tabOk 31 1 rfl rfl rfl rfl rfl rfl rfl (by omega) (run_l tabOk ?_); conv => whnf) | ((first | refine wl_add rfl rfl rfl rfl rfl rfl (by omega) (by omega) (run_l tabOk ?_) | refine gs_dt (by first | assumption | omega) ?_ | refine gs_df (by first | assumption | omega) ?_) <;> conv => whnf) | refine fin1 rfl rfl ?_))
      refine wl_box rfl rfl rfl rfl rfl rfl ?_
      intro gs wa hna
      have hC0 := csNew hna
      have hBa := hna.below
      clear hna
      refine run_l tabOk ?_
      conv => whnf
      (repeat' (first | ((first | refine wl_add rfl rfl rfl rfl rfl rfl (by omega) (by omega) (run_l tabOk ?_) | refine gs_dt (by first | assumption | omega) ?_ | refine gs_df (by first | assumption | omega) ?_) <;> conv => whnf) | refine fin1 rfl rfl ?_))
      refine wc_ends 2 (fun _ _ => False) (X := Unit) (fun _ => [(1, .int .i64 nc), (2, .pointer (some ⟨g1, 0, none⟩)), (6, .slice (some ⟨go, 0, none⟩) N N), (7, .slice (some ⟨gl, 0, none⟩) K K), (8, .int .i64 (k : Int)), (10, .pointer (some ⟨gs, 0, none⟩)), (26, .slice (some ad0) K ck), (27, .int .i64 (K : Int)), (28, .int .i64 (k : Int))]) (fun _ wj => Below wr.heap.size wr wj ∧ CS wr.heap.size gs wj (M k)) ?_ (fun _ _ h => h.elim) ?_
      · refine lp_loop tabOk (X := Nat) (fun i => [(1, .int .i64 nc), (2, .pointer (some ⟨g1, 0, none⟩)), (6, .slice (some ⟨go, 0, none⟩) N N), (7, .slice (some ⟨gl, 0, none⟩) K K), (8, .int .i64 (k : Int)), (10, .pointer (some ⟨gs, 0, none⟩)), (26, .slice (some ad0) K ck), (27, .int .i64 (K : Int)), (28, .int .i64 (k : Int)), (35, .slice (some adl) l.length cl), (36, .int .i64 (l.length : Int)), (37, .int .i64 (i : Int))]) (fun i wj => i ≤ l.length ∧ Below wr.heap.size wr wj ∧ CS wr.heap.size gs wj (fun j => ∃ u ∈ l.take i, NodeP vars nc into bases lo of k u j)) (fun i => l.length - i) 0 ⟨rfl, rfl, rfl, rfl, rfl, rfl, rfl, rfl, rfl, rfl, rfl, rfl, trivial⟩ ⟨by omega, hBa, hC0.imp fun j => by simp⟩ ?_
        clear hC0 hBa
        rintro i G5 wi ⟨hi, hBi, hCi⟩
        have hB5i := bup hM.below hBi
        by_cases hil : i < l.length
        · obtain ⟨v, hv⟩ : ∃ v, v = l[i]! := ⟨_, rfl⟩
          have hvl : v ∈ l := by rw [hv, getElem!_pos l i hil]; exact List.getElem_mem hil
          have hvN := (hdown v hvl).1
          have hvd := (hdown v hvl).2
          have hcv := hR5 wi hBi i hil
          rw [← hv] at hcv
          obtain ⟨cad, hCe, rdC⟩ : ∃ cad, C = some cad ∧ ∀ wj, Below w5.heap.size w5 wj → wj.cell? (cad.add (v * 1)) = some (.bool lo[v]!) := by
            obtain ⟨adC, csC, eC, _, hcC, hdC⟩ := row_at hC v (by omega)
            have hdC : csC = [.bool lo[v]!] := hdC
            subst hdC
            exact ⟨adC, eC, fun wj hb => cell_up hb hcC.1⟩
          have hCc := hCe
          subst hCc
          obtain ⟨P0, hP0⟩ : ∃ P : Nat → Prop, P = fun j => ∃ u ∈ l.take i, NodeP vars nc into bases lo of k u j := ⟨_, rfl⟩
          have hPn : ∀ j, (∃ u ∈ l.take (i + 1), NodeP vars nc into bases lo of k u j) ↔ P0 j ∨ NodeP vars nc into bases lo of k v j := fun j => by
            rw [hP0, hv]
            constructor
            · rintro ⟨u, hu, h⟩
              rcases (take_mem hil).1 hu with h2 | h2
              · exact .inl ⟨u, h2, h⟩
              · exact .inr (h2 ▸ h)
            · rintro (⟨u, hu, h⟩ | h)
              · exact ⟨u, (take_mem hil).2 (.inl hu), h⟩
              · exact ⟨_, (take_mem hil).2 (.inr rfl), h⟩
          rw [← hP0] at hCi
          clear hP0
          obtain ⟨b, hb⟩ : ∃ b, b = lo[v]! := ⟨_, rfl⟩
          have hbi := blk_up hB5i hbx
          have hcC := rdC wi hB5i
          rw [← hb] at hcC
          -- what comes into it
          obtain ⟨x, ad2, B2, cc2, ⟨hx⟩, hAi, hrw5, _, ⟨hRx⟩⟩ := rowsE hA v (by omega)
          have hAc := hAi
          subst hAc
          have hxm := hRx.1
          have hyN : ∀ y ∈ x, 0 ≤ y ∧ y < (N : Int) := fun y hy => by rw [hN]; exact hG.ri v (by omega) y (by rw [hx]; exact hy)
          have hyk : ∀ y ∈ x, of y.toNat ≤ k := fun y hy => hvd y (by rw [hx]; exact hy)
          conv => whnf
          (repeat' (first | (refine wl_Lg tabOk hbi rfl rfl rfl rfl rfl rfl rfl (run_l tabOk ?_); conv => whnf) | (refine wl_L tabOk rfl rfl rfl rfl rfl rfl hcv (run_l tabOk ?_); conv => whnf) | (refine wl_Xn tabOk 31 1 rfl rfl rfl rfl rfl rfl rfl (by omega) (run_l tabOk ?_); conv => whnf) | (refine wl_Xn tabOk 3 1 rfl rfl rfl rfl rfl rfl rfl (by omega) (run_l tabOk ?_); conv => whnf) | (refine wl_Xn tabOk 4 1 rfl rfl rfl rfl rfl rfl rfl (by omega) (run_l tabOk ?_); conv => whnf) | ((first | refine wl_add rfl rfl rfl rfl rfl rfl (by omega) (by omega) (run_l tabOk ?_) | refine gs_dt (by first | assumption | omega) ?_ | refine gs_df (by first | assumption | omega) ?_) <;> conv => whnf) | refine fin1 rfl rfl ?_))
          refine wl_L tabOk rfl rfl rfl rfl rfl rfl hcC (wl_nil ?_)
          refine run_cutw (X := Unit) (fun _ => [(1, .int .i64 nc), (2, .pointer (some ⟨g1, 0, none⟩)), (6, .slice (some ⟨go, 0, none⟩) N N), (7, .slice (some ⟨gl, 0, none⟩) K K), (8, .int .i64 (k : Int)), (10, .pointer (some ⟨gs, 0, none⟩)), (12, .int .i64 (v : Int)), (26, .slice (some ad0) K ck), (27, .int .i64 (K : Int)), (28, .int .i64 (k : Int)), (35, .slice (some adl) l.length cl), (36, .int .i64 (l.length : Int)), (37, .int .i64 (i : Int))]) (fun _ wj => Below wr.heap.size wr wj ∧ CS wr.heap.size gs wj (fun j => P0 j ∨ (b = true ∧ j = nc + v))) ?_ ?_
          · clear hCi hBi hB5i hcv hcC hbi
            rintro _ G6 wj ⟨hBj, hCj⟩
            have hB5j := bup hM.below hBj
            have hbj := blk_up hB5j hbx
            conv => whnf
            refine wl_Lg tabOk hbj rfl rfl rfl rfl rfl rfl rfl (wl_P tabOk rfl rfl rfl rfl (wl_nil ?_))
            refine run_cutw (X := Unit) (fun _ => [(1, .int .i64 nc), (2, .pointer (some ⟨g1, 0, none⟩)), (6, .slice (some ⟨go, 0, none⟩) N N), (7, .slice (some ⟨gl, 0, none⟩) K K), (8, .int .i64 (k : Int)), (10, .pointer (some ⟨gs, 0, none⟩)), (12, .int .i64 (v : Int)), (26, .slice (some ad0) K ck), (27, .int .i64 (K : Int)), (28, .int .i64 (k : Int)), (35, .slice (some adl) l.length cl), (36, .int .i64 (l.length : Int)), (37, .int .i64 (i : Int))]) (fun _ wj => Below wr.heap.size wr wj ∧ CS wr.heap.size gs wj (fun j => (P0 j ∨ (b = true ∧ j = nc + v)) ∨ (v < vars ∧ (j : Int) ∈ bases[v]!))) ?_ ?_
            · clear hCj hBj hB5j hbj
              rintro _ G7 wj ⟨hBj, hCj⟩
              have hB5j := bup hM.below hBj
              have hbj := blk_up hB5j hbx
              have hrw := cell_up hB5j hrw5
              obtain ⟨P3, hP3⟩ : ∃ P : Nat → Prop, P = fun j => (P0 j ∨ (b = true ∧ j = nc + v)) ∨ (v < vars ∧ (j : Int) ∈ bases[v]!) := ⟨_, rfl⟩
              rw [← hP3] at hCj
              conv => whnf
              (repeat' (first | (refine wl_Lg tabOk hbj rfl rfl rfl rfl rfl rfl rfl (run_l tabOk ?_); conv => whnf) | (refine wl_L tabOk rfl rfl rfl rfl rfl rfl hrw (run_l tabOk ?_); conv => whnf) | (refine wl_Xn tabOk 31 1 rfl rfl rfl rfl rfl rfl rfl (by omega) (run_l tabOk ?_); conv => whnf) | ((first | refine wl_add rfl rfl rfl rfl rfl rfl (by omega) (by omega) (run_l tabOk ?_) | refine gs_dt (by first | assumption | omega) ?_ | refine gs_df (by first | assumption | omega) ?_) <;> conv => whnf) | refine fin1 rfl rfl ?_))
              refine wc_ends 4 (fun _ _ => False) (X := Unit) (fun _ => [(1, .int .i64 nc), (2, .pointer (some ⟨g1, 0, none⟩)), (6, .slice (some ⟨go, 0, none⟩) N N), (7, .slice (some ⟨gl, 0, none⟩) K K), (8, .int .i64 (k : Int)), (10, .pointer (some ⟨gs, 0, none⟩)), (26, .slice (some ad0) K ck), (27, .int .i64 (K : Int)), (28, .int .i64 (k : Int)), (35, .slice (some adl) l.length cl), (36, .int .i64 (l.length : Int)), (37, .int .i64 (i : Int))]) (fun _ wj => Below wr.heap.size wr wj ∧ CS wr.heap.size gs wj (fun j => P0 j ∨ NodeP vars nc into bases lo of k v j)) ?_ (fun _ _ h => h.elim) ?_
              · refine lp_loop tabOk (X := Nat) (fun m => [(1, .int .i64 nc), (2, .pointer (some ⟨g1, 0, none⟩)), (6, .slice (some ⟨go, 0, none⟩) N N), (7, .slice (some ⟨gl, 0, none⟩) K K), (8, .int .i64 (k : Int)), (10, .pointer (some ⟨gs, 0, none⟩)), (26, .slice (some ad0) K ck), (27, .int .i64 (K : Int)), (28, .int .i64 (k : Int)), (35, .slice (some adl) l.length cl), (36, .int .i64 (l.length : Int)), (37, .int .i64 (i : Int)), (67, .slice B2 x.length cc2), (68, .int .i64 (x.length : Int)), (69, .int .i64 (m : Int))]) (fun m wj => m ≤ x.length ∧ Below wr.heap.size wr wj ∧ CS wr.heap.size gs wj (fun j => P3 j ∨ ∃ y ∈ x.take m, of y.toNat ≠ k ∧ GS vars nc into bases lo y.toNat j)) (fun m => x.length - m) 0 ⟨rfl, rfl, rfl, rfl, rfl, rfl, rfl, rfl, rfl, rfl, rfl, rfl, rfl, rfl, rfl, trivial⟩ ⟨by omega, hBj, hCj.imp fun j => by simp⟩ ?_
                clear hCj hBj hB5j hbj hrw
                rintro m G8 wk ⟨hm, hBk, hCk⟩
                have hB5k := bup hM.below hBk
                by_cases hmx : m < x.length
                · obtain ⟨y, ad3, ⟨hy⟩, e3, hyc, _, _⟩ := intsE (hRx.up (stays_I _) hB5k) m hmx
                  subst e3
                  have hym : y ∈ x := by rw [← hy, getElem!_pos x m hmx]; exact List.getElem_mem hmx
                  have hyn := hyN y hym
                  obtain ⟨u, hu⟩ := Int.eq_ofNat_of_zero_le hyn.1
                  subst hu
                  have huk := hyk _ hym
                  rw [Int.toNat_natCast] at huk
                  have hcu := rd wk hB5k u (by omega)
                  have hnext : ∀ j, (∃ y ∈ x.take (m + 1), of y.toNat ≠ k ∧ GS vars nc into bases lo y.toNat j) ↔ (∃ y ∈ x.take m, of y.toNat ≠ k ∧ GS vars nc into bases lo y.toNat j) ∨ (of u ≠ k ∧ GS vars nc into bases lo u j) := fun j => by
                    constructor
                    · rintro ⟨y, h1, h2⟩
                      rcases (take_mem hmx).1 h1 with h3 | h3
                      · exact .inl ⟨y, h3, h2⟩
                      · rw [h3, hy, Int.toNat_natCast] at h2
                        exact .inr h2
                    · rintro (⟨y, h1, h2⟩ | h2)
                      · exact ⟨y, (take_mem hmx).2 (.inl h1), h2⟩
                      · exact ⟨_, (take_mem hmx).2 (.inr rfl), by rw [hy, Int.toNat_natCast]; exact h2⟩
                  by_cases h1 : of u = k
                  · conv => whnf
                    (repeat' (first | (refine wl_L tabOk rfl rfl rfl rfl rfl rfl hyc (run_l tabOk ?_); conv => whnf) | (refine wl_L tabOk rfl rfl rfl rfl rfl rfl hcu (run_l tabOk ?_); conv => whnf) | (refine wl_Xn tabOk 3 1 rfl rfl rfl rfl rfl rfl rfl (by omega) (run_l tabOk ?_); conv => whnf) | ((first | refine wl_add rfl rfl rfl rfl rfl rfl (by omega) (by omega) (run_l tabOk ?_) | refine gs_dt (by first | assumption | omega) ?_ | refine gs_df (by first | assumption | omega) ?_) <;> conv => whnf) | refine fin1 rfl rfl ?_))
                    exact ⟨m + 1, ⟨rfl, rfl, rfl, rfl, rfl, rfl, rfl, rfl, rfl, rfl, rfl, rfl, rfl, rfl, rfl, trivial⟩, ⟨hmx, hBk, hCk.imp fun j => by rw [hnext j]; exact ⟨fun h => h.elim .inl fun h => .inr (.inl h), fun h => h.elim .inl fun h => h.elim .inr fun h => absurd h1 h.1⟩⟩, by omega⟩
                  · obtain ⟨g2, hf2, hcs⟩ := (hM.up hBk).set (of u) (by omega)
                    have hset := (hM.up hBk).cell (p := of u) (by omega)
                    rw [hf2] at hset
                    have hmu : ∀ j, M (of u) j ↔ GS vars nc into bases lo u j := fun j => hMat (of u) u j (by omega) (hK.at_ u (by omega)).2
                    conv => whnf
                    (repeat' (first | (refine wl_L tabOk rfl rfl rfl rfl rfl rfl hyc (run_l tabOk ?_); conv => whnf) | (refine wl_L tabOk rfl rfl rfl rfl rfl rfl hcu (run_l tabOk ?_); conv => whnf) | (refine wl_L tabOk rfl rfl rfl rfl rfl rfl hset (run_l tabOk ?_); conv => whnf) | (refine wl_Xn tabOk 3 1 rfl rfl rfl rfl rfl rfl rfl (by omega) (run_l tabOk ?_); conv => whnf) | (refine wl_Xn tabOk 50 1 rfl rfl rfl rfl rfl rfl rfl (by omega) (run_l tabOk ?_); conv => whnf) | ((first | refine wl_add rfl rfl rfl rfl rfl rfl (by omega) (by omega) (run_l tabOk ?_) | refine gs_dt (by first | assumption | omega) ?_ | refine gs_df (by first | assumption | omega) ?_) <;> conv => whnf) | refine fin1 rfl rfl ?_))
                    have hsz2 := hBk.size
                    refine wl_C fn38 (csJoin hCk hcs hsz2) rfl rfl rfl rfl rfl rfl rfl ?_
                    rintro _ w4 ⟨⟨bb, rfl⟩, hC4, hK4⟩
                    refine ⟨_, rfl, run_l tabOk ?_⟩
                    conv => whnf
                    (repeat' (first | ((first | refine wl_add rfl rfl rfl rfl rfl rfl (by omega) (by omega) (run_l tabOk ?_) | refine gs_dt (by first | assumption | omega) ?_ | refine gs_df (by first | assumption | omega) ?_) <;> conv => whnf) | refine fin1 rfl rfl ?_))
                    exact ⟨m + 1, ⟨rfl, rfl, rfl, rfl, rfl, rfl, rfl, rfl, rfl, rfl, rfl, rfl, rfl, rfl, rfl, trivial⟩, ⟨hmx, hK4 wr hBk, hC4.imp fun j => by rw [hnext j, hmu j]; exact ⟨fun h => h.elim (fun h => h.elim .inl fun h => .inr (.inl h)) fun h => .inr (.inr ⟨h1, h⟩), fun h => h.elim (fun h => .inl (.inl h)) fun h => h.elim (fun h => .inl (.inr h)) fun h => .inr h.2⟩⟩, by omega⟩
                · have hml : m = x.length := by omega
                  rw [hml, List.take_length] at hCk
                  conv => whnf
                  (repeat' (first | ((first | refine wl_add rfl rfl rfl rfl rfl rfl (by omega) (by omega) (run_l tabOk ?_) | refine gs_dt (by first | assumption | omega) ?_ | refine gs_df (by first | assumption | omega) ?_) <;> conv => whnf) | refine fin1 rfl rfl ?_))
                  refine ⟨rfl, (), ⟨rfl, rfl, rfl, rfl, rfl, rfl, rfl, rfl, rfl, rfl, rfl, rfl, trivial⟩, hBk, hCk.imp fun j => ?_⟩
                  rw [hP3, hb, ← hx]
                  unfold NodeP
                  constructor
                  · rintro (((h | h) | h) | h)
                    · exact .inl h
                    · exact .inr (.inl h)
                    · exact .inr (.inr (.inl h))
                    · exact .inr (.inr (.inr h))
                  · rintro (h | h | h | h)
                    · exact .inl (.inl (.inl h))
                    · exact .inl (.inl (.inr h))
                    · exact .inl (.inr h)
                    · exact .inr h
              · rintro _ G8 wk ⟨hBk, hCk⟩
                conv => whnf
                (repeat' (first | ((first | refine wl_add rfl rfl rfl rfl rfl rfl (by omega) (by omega) (run_l tabOk ?_) | refine gs_dt (by first | assumption | omega) ?_ | refine gs_df (by first | assumption | omega) ?_) <;> conv => whnf) | refine fin1 rfl rfl ?_))
                exact ⟨i + 1, ⟨rfl, rfl, rfl, rfl, rfl, rfl, rfl, rfl, rfl, rfl, rfl, rfl, trivial⟩, ⟨by omega, hBk, hCk.imp fun j => (hPn j).symm⟩, by omega⟩
            · intro yv hy
              by_cases hvv : v < vars
              · obtain ⟨xb, adb, Bb, cbb, ⟨hxb⟩, hBe, hrb5, _, ⟨hRb⟩⟩ := rowsE hB v (by omega)
                subst hBe
                have hbm := hRb.1
                have hbN : ∀ y ∈ xb, 0 ≤ y ∧ y < 65536 := fun y hy => by have := hG.rb v (by omega) y (by rw [hxb]; exact hy); omega
                have hxbl : xb.length ≤ 1048576 := by rw [← hxb]; exact hbl v hvv
                have hrb := cell_up hB5j hrb5
                conv => whnf
                (repeat' (first | (refine wl_Lg tabOk hbj rfl rfl rfl rfl rfl rfl rfl (run_l tabOk ?_); conv => whnf) | (refine wl_L tabOk rfl rfl rfl rfl rfl rfl hrb (run_l tabOk ?_); conv => whnf) | (refine wl_Xn tabOk 31 1 rfl rfl rfl rfl rfl rfl rfl (by omega) (run_l tabOk ?_); conv => whnf) | ((first | refine wl_add rfl rfl rfl rfl rfl rfl (by omega) (by omega) (run_l tabOk ?_) | refine gs_dt (by first | assumption | omega) ?_ | refine gs_df (by first | assumption | omega) ?_) <;> conv => whnf) | refine fin1 rfl rfl ?_))
                refine wl_C fn39 (csOf xb Bb cbb wj (hRb.up (stays_I _) hB5j) hxbl hbN) rfl rfl rfl rfl rfl rfl rfl ?_
                rintro _ w3 ⟨g2, rfl, hC2, hB3⟩
                refine ⟨_, rfl, run_l tabOk ?_⟩
                conv => whnf
                have hsz3 := (bup hBj hB3).size
                refine wl_C fn38 (csJoin (hCj.up hB3) hC2 hsz3) rfl rfl rfl rfl rfl rfl rfl ?_
                rintro _ w4 ⟨⟨bb, rfl⟩, hC4, hK4⟩
                refine ⟨_, rfl, run_l tabOk ?_⟩
                conv => whnf
                exact hy () _ _ ⟨rfl, rfl, rfl, rfl, rfl, rfl, rfl, rfl, rfl, rfl, rfl, rfl, rfl, trivial⟩ ⟨hK4 wr (bup hBj hB3), hC4.imp fun j => by rw [hxb]; exact or_congr Iff.rfl ⟨fun h => ⟨hvv, h⟩, fun h => h.2⟩⟩
              · conv => whnf
                (repeat' (first | ((first | refine wl_add rfl rfl rfl rfl rfl rfl (by omega) (by omega) (run_l tabOk ?_) | refine gs_dt (by first | assumption | omega) ?_ | refine gs_df (by first | assumption | omega) ?_) <;> conv => whnf) | refine fin1 rfl rfl ?_))
                exact hy () _ _ ⟨rfl, rfl, rfl, rfl, rfl, rfl, rfl, rfl, rfl, rfl, rfl, rfl, rfl, trivial⟩ ⟨hBj, hCj.imp fun j => ⟨.inl, fun h => h.elim id fun h => absurd h.1 hvv⟩⟩
          · intro yv hy
            have hbc : b = true ∨ b = false := by cases b <;> simp
            clear hb
            rcases hbc with rfl | rfl
            · conv => whnf
              (repeat' (first | ((first | refine wl_add rfl rfl rfl rfl rfl rfl (by omega) (by omega) (run_l tabOk ?_) | refine gs_dt (by first | assumption | omega) ?_ | refine gs_df (by first | assumption | omega) ?_) <;> conv => whnf) | refine fin1 rfl rfl ?_))
              have hsz2 := hBi.size
              refine wl_C fn37 (csAdd hCi hsz2 (nc + v) (by omega) (by omega)) rfl rfl rfl rfl rfl rfl rfl ?_
              rintro _ w4 ⟨⟨bb, rfl⟩, hC4, hK4⟩
              refine ⟨_, rfl, run_l tabOk ?_⟩
              conv => whnf
              exact hy () _ _ ⟨rfl, rfl, rfl, rfl, rfl, rfl, rfl, rfl, rfl, rfl, rfl, rfl, rfl, trivial⟩ ⟨hK4 wr hBi, hC4.imp fun j => by simp⟩
            · conv => whnf
              exact hy () _ _ ⟨rfl, rfl, rfl, rfl, rfl, rfl, rfl, rfl, rfl, rfl, rfl, rfl, rfl, trivial⟩ ⟨hBi, hCi.imp fun j => by simp⟩
        · have hil2 : i = l.length := by omega
          rw [hil2, List.take_length] at hCi
          conv => whnf
          (repeat' (first | ((first | refine wl_add rfl rfl rfl rfl rfl rfl (by omega) (by omega) (run_l tabOk ?_) | refine gs_dt (by first | assumption | omega) ?_ | refine gs_df (by first | assumption | omega) ?_) <;> conv => whnf) | refine fin1 rfl rfl ?_))
          exact ⟨rfl, (), ⟨rfl, rfl, rfl, rfl, rfl, rfl, rfl, rfl, rfl, trivial⟩, hBi, hCi.imp fun j => (hMk j).symm⟩
      · rintro _ G5 wi ⟨hBi, hCi⟩
        have hMi := hM.up hBi
        have hrow := hMi.row
        conv => whnf
        (repeat' (first | (refine wl_Xn tabOk 50 1 rfl rfl rfl rfl rfl rfl rfl (by omega) (run_l tabOk ?_); conv => whnf) | ((first | refine wl_add rfl rfl rfl rfl rfl rfl (by omega) (by omega) (run_l tabOk ?_) | refine gs_dt (by first | assumption | omega) ?_ | refine gs_df (by first | assumption | omega) ?_) <;> conv => whnf) | refine fin1 rfl rfl ?_))
        refine wl_Se (j := k * 1) (v := .pointer (some ⟨gs, 0, none⟩)) tabOk hrow rfl rfl rfl rfl rfl rfl (by rw [pvs_len]; omega) rfl rfl ?_
        intro w2 hp2
        rw [Nat.mul_one] at hp2
        have hM2 := hMi.put (hCi.lower hM.below.size) hp2
        refine run_l tabOk ?_
        conv => whnf
        (repeat' (first | ((first | refine wl_add rfl rfl rfl rfl rfl rfl (by omega) (by omega) (run_l tabOk ?_) | refine gs_dt (by first | assumption | omega) ?_ | refine gs_df (by first | assumption | omega) ?_) <;> conv => whnf) | refine fin1 rfl rfl ?_))
        exact ⟨(k + 1, setF f k (.pointer (some ⟨gs, 0, none⟩))), ⟨rfl, rfl, rfl, rfl, rfl, rfl, rfl, trivial⟩, ⟨by simp only; omega, hM2⟩, by simp only; omega⟩
    · have hkK : k = K := by omega
      rw [hkK] at hM
      conv => whnf
      (repeat' (first | ((first | refine wl_add rfl rfl rfl rfl rfl rfl (by omega) (by omega) (run_l tabOk ?_) | refine gs_dt (by first | assumption | omega) ?_ | refine gs_df (by first | assumption | omega) ?_) <;> conv => whnf) | refine fin1 rfl rfl ?_))
      exact ⟨rfl, f, ⟨rfl, rfl, rfl, rfl, trivial⟩, hM⟩
  · clear hM
    rintro f G wS hM
    have hBS := hM.below
    have hbS := blk_up hBS hbx
    conv => whnf
    (repeat' (first | (refine wl_Lg tabOk hbS rfl rfl rfl rfl rfl rfl rfl (run_l tabOk ?_); conv => whnf) | ((first | refine wl_add rfl rfl rfl rfl rfl rfl (by omega) (by omega) (run_l tabOk ?_) | refine gs_dt (by first | assumption | omega) ?_ | refine gs_df (by first | assumption | omega) ?_) <;> conv => whnf) | refine fin1 rfl rfl ?_))
    refine wl_mk (m := vars) tabOk 50 1 8 rfl rfl rfl rfl rfl rfl rfl rfl rfl (by omega) (by omega) ?_
    intro g9 w7 hn7
    have hB7 := hn7.below
    have hr7 : w7.heap[g9]? = some (.cells (pvs vars fun _ => .pointer none).toArray 50 (0, 0)) := by rw [← pvs_zero]; exact hn7.blk
    have hg9 : wS.heap.size ≤ g9 := Nat.le_of_eq hn7.at_.symm
    clear hn7
    refine run_l tabOk ?_
    conv => whnf
    (repeat' (first | ((first | refine wl_add rfl rfl rfl rfl rfl rfl (by omega) (by omega) (run_l tabOk ?_) | refine gs_dt (by first | assumption | omega) ?_ | refine gs_df (by first | assumption | omega) ?_) <;> conv => whnf) | refine fin1 rfl rfl ?_))
    refine wc_ends 6 (fun _ _ => False) (X := Nat → Value) (fun x => [(15, .slice (some ⟨g9, 0, none⟩) vars vars)]) (fun x wj => Below wS.heap.size wS wj ∧ wj.heap[g9]? = some (.cells (pvs vars x).toArray 50 (0, 0)) ∧ ∀ u, u < vars → x u = f (of u)) ?_ (fun _ _ h => h.elim) ?_
    · refine lp_loop tabOk (X := Nat × (Nat → Value)) (fun x => [(6, .slice (some ⟨go, 0, none⟩) N N), (7, .slice (some ⟨gl, 0, none⟩) K K), (15, .slice (some ⟨g9, 0, none⟩) vars vars), (99, .int .i64 (vars : Int)), (100, .int .i64 (x.1 : Int))]) (fun x wj => x.1 ≤ vars ∧ Below wS.heap.size wS wj ∧ wj.heap[g9]? = some (.cells (pvs vars x.2).toArray 50 (0, 0)) ∧ ∀ u, u < x.1 → x.2 u = f (of u)) (fun x => vars - x.1) (0, fun _ => .pointer none) ⟨rfl, rfl, rfl, rfl, rfl, trivial⟩ ⟨by simp, hB7, hr7, fun u hu => absurd hu (Nat.not_lt_zero u)⟩ ?_
      clear hB7 hr7
      rintro ⟨v, x⟩ G2 wj ⟨hv, hBj, hrj, hfj⟩
      simp only at hv hBj hrj hfj
      by_cases hvn : v < vars
      · have hcv := rd wj (bup hBS hBj) v (by omega)
        have hov := (hK.at_ v (by omega)).1
        have hcf := (hM.up hBj).cell (p := of v) (by omega)
        conv => whnf
        (repeat' (first | (refine wl_L tabOk rfl rfl rfl rfl rfl rfl hcv (run_l tabOk ?_); conv => whnf) | (refine wl_L tabOk rfl rfl rfl rfl rfl rfl hcf (run_l tabOk ?_); conv => whnf) | (refine wl_Xn tabOk 3 1 rfl rfl rfl rfl rfl rfl rfl (by omega) (run_l tabOk ?_); conv => whnf) | (refine wl_Xn tabOk 50 1 rfl rfl rfl rfl rfl rfl rfl (by omega) (run_l tabOk ?_); conv => whnf) | ((first | refine wl_add rfl rfl rfl rfl rfl rfl (by omega) (by omega) (run_l tabOk ?_) | refine gs_dt (by first | assumption | omega) ?_ | refine gs_df (by first | assumption | omega) ?_) <;> conv => whnf) | refine fin1 rfl rfl ?_))
        have hone : (f (of v)).oneCell' = true := by
          obtain ⟨g2, hf2, _⟩ := hM.set (of v) (by omega)
          rw [hf2]
          rfl
        refine wl_Se (j := v * 1) (v := f (of v)) tabOk hrj rfl rfl rfl rfl rfl hone (by rw [pvs_len]; omega) rfl rfl ?_
        intro w2 hp2
        rw [Nat.mul_one, pvs_set] at hp2
        refine run_l tabOk ?_
        conv => whnf
        (repeat' (first | ((first | refine wl_add rfl rfl rfl rfl rfl rfl (by omega) (by omega) (run_l tabOk ?_) | refine gs_dt (by first | assumption | omega) ?_ | refine gs_df (by first | assumption | omega) ?_) <;> conv => whnf) | refine fin1 rfl rfl ?_))
        refine ⟨(v + 1, setF x v (f (of v))), ⟨rfl, rfl, rfl, rfl, rfl, trivial⟩, ⟨by simp only; omega, hp2.below hBj hg9 hBj.size, hp2.blk, fun u hu => ?_⟩, by simp only; omega⟩
        by_cases e : u = v
        · rw [e]; simp [setF]
        · simp only [setF, e, if_false]
          exact hfj u (by omega)
      · have hvn2 : v = vars := by omega
        rw [hvn2] at hfj
        conv => whnf
        (repeat' (first | ((first | refine wl_add rfl rfl rfl rfl rfl rfl (by omega) (by omega) (run_l tabOk ?_) | refine gs_dt (by first | assumption | omega) ?_ | refine gs_df (by first | assumption | omega) ?_) <;> conv => whnf) | refine fin1 rfl rfl ?_))
        exact ⟨rfl, x, ⟨rfl, trivial⟩, hBj, hrj, hfj⟩
    · rintro x G2 wj ⟨hBj, hrj, hfj⟩
      conv => whnf
      (repeat' (first | ((first | refine wl_add rfl rfl rfl rfl rfl rfl (by omega) (by omega) (run_l tabOk ?_) | refine gs_dt (by first | assumption | omega) ?_ | refine gs_df (by first | assumption | omega) ?_) <;> conv => whnf) | refine fin1 rfl rfl ?_))
      refine ⟨g9, x, rfl, hrj, fun v hv => ?_, bup hBw (bup hBS hBj)⟩
      have hat := hK.at_ v (by omega)
      obtain ⟨g2, hf2, hcs⟩ := (hM.up hBj).set (of v) (by omega)
      exact ⟨g2, by rw [hfj v hv, hf2], (hcs.lower hBw.size).imp fun j => hMat (of v) v j (by omega) hat.2⟩
end Go.Proofs.Ytjggjhgbobmkhaa

/- Maps from texts to numbers, each key with the number of those ahead of it. -/
namespace Go.Proofs.Ytjggjhgbobmkhaa
open Go.RowKit
set_option linter.unusedVariables false
set_option linter.unusedSimpArgs false
theorem str_inj {a b : ByteArray} (h : (Lit.string a.data.toList) = (Lit.string b.data.toList)) : a = b := by
  injection h with h
  cases a
  cases b
  congr 1
  exact Array.toList_inj.1 h
theorem isKey_str (x : ByteArray) : WideAt.IsKeyLit (.string x.data.toList) := by simp [WideAt.IsKeyLit]
structure StrT (P : Program) (t k e : TypeId) : Prop where
  t : P.underlying t = some (.map k e)
  k : P.underlying k = some .string
  e : P.underlying e = some (.int .i64)
section
variable {P : Program} {t k e : TypeId} {w w1 : World} {b n : Nat} {L : List ByteArray}
structure StrM (P : Program) (k e : TypeId) (w : World) (b : Nat) (L : List ByteArray) (n : Nat) : Prop where
  ex : ∃ D : DataW Unit, w.ownsMap P k (plainElem P e) b n D ∧ (∀ l, Maps.has D l = true ↔ ∃ x ∈ L, l = Lit.string x.data.toList) ∧ Maps.size D = L.length ∧ ∀ i, i < L.length → ∀ z, D.atKey (.string (L[i]!).data.toList) z = .lit (.int .i64 (i : Int))
  nd : L.Nodup
theorem StrM.lt (h : StrM P k e w b L n) : b < w.heap.size := by
  obtain ⟨D, h1, _⟩ := h.ex
  exact h1.lt
theorem StrM.kept {row : Option Nat} (h : StrM P k e w b L n) (hg : w.grownBy w1 row) (hne : some b ≠ row) : StrM P k e w1 b L n := by
  obtain ⟨D, h1, h2⟩ := h.ex
  exact ⟨⟨D, h1.kept hg hne, h2⟩, h.nd⟩
theorem StrM.up (h : StrM P k e w b L n) (hb : Below w.heap.size w w1) : StrM P k e w1 b L n := h.kept (row := none) (grown_of hb) nofun
theorem StrM.made (hb : w1 = w.alloc (.map #[] 0)) : StrM P k e w1 w.heap.size [] 0 := by
  subst hb
  refine ⟨⟨.map [], World.ownsMap_made w P k _, fun l => ⟨fun h => (by cases h), fun ⟨x, hx, _⟩ => (by cases hx)⟩, rfl, fun i hi => absurd hi (Nat.not_lt_zero i)⟩, .nil⟩
theorem StrM.put (hT : StrT P t k e) (h : StrM P k e w b L n) (hn : n < maxLen) {x : ByteArray} (hx : x.size ≤ maxLen) (hm : inI (L.length : Int)) (hxL : x ∉ L) :
    ∃ w', (Instr.mapUpdate t (.map (some b)) (.string x) (.int .i64 (L.length : Int))).run P w = .ok () w' ∧ StrM P k e w' b (L ++ [x]) (n + 1) ∧ w.grownBy w' (some b) := by
  obtain ⟨D, h1, h2, h3, h4⟩ := h.ex
  have K := Maps.string_keyed (P := P) hT.k
  obtain ⟨w', hr, h5, h6⟩ := h1.update K hT.t hn (WideMaps.keyOf_string_mk hT.k hx) (plainElem_int hT.e (wf_inI hm))
  refine ⟨w', hr, ⟨⟨_, h5, fun l => ?_, ?_, fun i hi z => ?_⟩, ?_⟩, h6⟩
  · by_cases e1 : l = .string x.data.toList
    · subst e1
      rw [Maps.has_put_same (h1.isMap) (isKey_str x)]
      exact ⟨fun _ => ⟨x, by simp, rfl⟩, fun _ => rfl⟩
    · rw [Maps.has_put_other e1, h2]
      constructor
      · rintro ⟨y, hy, rfl⟩
        exact ⟨y, by simp [hy], rfl⟩
      · rintro ⟨y, hy, rfl⟩
        rcases List.mem_append.1 hy with hy | hy
        · exact ⟨y, hy, rfl⟩
        · simp at hy
          subst hy
          exact absurd rfl e1
  · rw [Maps.size_put (h1.tidy K)]
    have hm : ¬ Maps.has D (.string x.data.toList) = true := fun hh => by
      obtain ⟨y, hy, e⟩ := (h2 _).1 hh
      exact hxL (str_inj e ▸ hy)
    rw [if_neg hm, h3]
    simp
  · have hi : i < L.length + 1 := by simpa using hi
    by_cases e1 : i < L.length
    · have e2 : (L ++ [x])[i]! = L[i]! := by
        rw [getElem!_pos (L ++ [x]) i (by simp; omega), getElem!_pos L i e1, List.getElem_append_left e1]
      rw [e2]
      have hne : L[i]! ≠ x := fun e => hxL (by rw [← e, getElem!_pos L i e1]; exact List.getElem_mem e1)
      rw [Maps.atKey_put_other (fun e3 => hne (str_inj e3)), h4 i e1]
    · have e2 : i = L.length := by omega
      subst e2
      have e2 : (L ++ [x])[L.length]! = x := by
        rw [getElem!_pos (L ++ [x]) L.length (by simp)]
        simp
      rw [e2]
      exact Maps.atKey_put_same h1.isMap (isKey_str x) _ z
  · rw [List.nodup_append]
    exact ⟨h.nd, by simp, fun a ha c hc e => by simp at hc; subst hc; exact hxL (e ▸ ha)⟩
theorem StrM.len (hT : StrT P t k e) (h : StrM P k e w b L n) (ty : TypeId) : (Builtin.len_ #[t] ty #[.map (some b)]).run P w = .ok (.int .i64 (L.length : Int)) w := by
  obtain ⟨D, h1, h2, h3, _⟩ := h.ex
  rw [h1.len hT.t ty, h3]
theorem StrM.look (hT : StrT P t k e) (h : StrM P k e w b L n) (hz : (zeroValue e).run P w = .ok (.int .i64 0) w) {x : ByteArray} (hx : x.size ≤ maxLen) :
    ∃ (v : Int) (ok : Bool), (Instr.lookup t (.map (some b)) (.string x) true).run P w = .ok (.tuple #[.int .i64 v, .bool ok]) w ∧ (ok = true ↔ x ∈ L) ∧ ∀ i, i < L.length → L[i]! = x → v = (i : Int) := by
  obtain ⟨D, h1, h2, h3, h4⟩ := h.ex
  have K := Maps.string_keyed (P := P) hT.k
  obtain ⟨v, ps, hr, hv⟩ := h1.look_ok K hT.t hz (plainElem_int hT.e (by decide)) (WideMaps.keyOf_string_mk hT.k hx)
  obtain ⟨c, rfl, hc, _⟩ := plainElem_int_inv hT.e hv
  have hhas : Maps.has D (.string x.data.toList) = true ↔ x ∈ L := by
    rw [h2]
    exact ⟨fun ⟨y, hy, e⟩ => str_inj e ▸ hy, fun hx => ⟨x, hx, rfl⟩⟩
  refine ⟨c, _, hr, hhas, fun i hi e => ?_⟩
  have h5 := h4 i hi (.lit (.int .i64 0))
  rw [e] at h5
  simp only [Prod.mk.injEq] at hc
  have h6 := hc.1.symm.trans h5
  injection h6 with h6
  injection h6
end
theorem strTy : StrT Try.prog 67 9 3 := ⟨Try.underlying67, Try.underlying9, Try.underlying3⟩
abbrev SNum := StrM Try.prog 9 3
end Go.Proofs.Ytjggjhgbobmkhaa

/- pile: Key. -/
namespace Go.Proofs.Ytjggjhgbobmkhaa
open Go.RowKit
set_option linter.unusedVariables false
set_option linter.unusedSimpArgs false
set_option linter.unnecessarySimpa false
set_option maxRecDepth 100000
def byV (n : Nat) : Value := .int .u8 (n : Int)
def strB (l : List Nat) : ByteArray := (l.map fun (n : Nat) => (n : Int)).foldl (fun r n => r.push (UInt8.ofNat n.toNat)) ByteArray.empty
theorem foldB (l : List Nat) : ∀ r : ByteArray, ((l.map fun (n : Nat) => (n : Int)).foldl (fun r n => r.push (UInt8.ofNat n.toNat)) r).data.toList = r.data.toList ++ l.map UInt8.ofNat := by
  induction l with
  | nil => intro r; simp
  | cons a l ih =>
    intro r
    simp only [List.map_cons, List.foldl_cons]
    rw [ih]
    simp [ByteArray.push]
theorem strB_inj {x y : List Nat} (hx : ∀ n ∈ x, n < 256) (hy : ∀ n ∈ y, n < 256) (h : strB x = strB y) : x = y := by
  have h1 := congrArg (fun b : ByteArray => b.data.toList) h
  simp only [strB, foldB] at h1
  have h2 : x.map UInt8.ofNat = y.map UInt8.ofNat := by simpa using h1
  have back : ∀ l : List Nat, (∀ n ∈ l, n < 256) → (l.map UInt8.ofNat).map UInt8.toNat = l := fun l hl => by
    rw [List.map_map]
    conv => rhs; rw [← List.map_id l]
    refine List.map_congr_left fun n hn => ?_
    simp [Nat.mod_eq_of_lt (hl n hn)]
  rw [← back x hx, ← back y hy, h2]
theorem keyB_lt {bs : List Blk} : ∀ n ∈ keyB bs, n < 256 := by
  intro n hn
  obtain ⟨b, _, hb⟩ := List.mem_flatMap.1 hn
  rcases List.mem_append.1 hb with h | h
  · obtain ⟨i, _, rfl⟩ := List.mem_map.1 h; exact Nat.mod_lt _ (by omega)
  · obtain ⟨i, _, rfl⟩ := List.mem_map.1 h; exact Nat.mod_lt _ (by omega)
theorem bbeq (a b : ByteArray) : (a == b) = decide (a = b) := by
  obtain ⟨x⟩ := a
  obtain ⟨y⟩ := b
  show (x == y) = _
  rw [Bool.eq_iff_iff]
  simp
/-- Keys are one just if the sets are. -/
theorem keyS_eq {xs ys : List Blk} (hx : WFB xs) (hy : WFB ys) (h1 : ∀ b ∈ xs, b.a < 4294967296) (h2 : ∀ b ∈ ys, b.a < 4294967296) : (strB (keyB xs) == strB (keyB ys)) = decide (xs = ys) := by
  rw [bbeq, decide_eq_decide]
  constructor
  · intro h
    exact keyB_inj (fun b hb => ⟨(hx.rng b hb).1, h1 b hb, (hx.rng b hb).2.2.2⟩) (fun b hb => ⟨(hy.rng b hb).1, h2 b hb, (hy.rng b hb).2.2.2⟩) (strB_inj keyB_lt keyB_lt h)
  · intro h; rw [h]
section
variable {P : Program} {T : Nat → Option TI} {n : Nat} {Q : Post} {F : Fm} {w : World} {ops : Array Oper} {rest : List Oper} {o : Oper}
/-- string(p), p a row of bytes. -/
theorem wl_str {base : Nat} {s d9 e : TypeId} {x : Operand} {V : Value} {l : List Nat} (hop : o.op = .convert s d9 x) (hx : ev F x = V) (hs : P.underlying s = some (.slice e)) (he : P.underlying e = some (.int .u8)) (hd9 : P.underlying d9 = some .string)
    (hown : w.ownsRow base e 1 V l.length (l.map byV)) (hg : o.guard = none) {d : Nat} (hd : o.dst = some d) (hn : Nat.blt d n = true)
    (k : wl P n ops rest Q (upd F d (.string (strB l))) w) : wl P n ops (o :: rest) Q F w := by
  refine wl_val hg hd hn ?_ k
  rcases hown.2 with ⟨rfl, h0⟩ | ⟨g, cap, cur, rfl, _, hcur, hnc, _, hcs, htk⟩
  · have hl : l = [] := List.eq_nil_of_length_eq_zero h0
    subst hl
    have h1 := run_convert_bytes_string w s d9 e none 0 0 hs he hd9
    have h2 : (Conv.bytesToString (.slice none 0 0)).run P w = .ok (.string (strB [])) w := by
      unfold Conv.bytesToString
      simp [strB]
    simp [execOp, hop, hx, h1, h2]
  · have h1 := run_convert_bytes_string w s d9 e (some ⟨g, 0, none⟩) l.length cap hs he hd9
    have hl := run_loadCells_list (P := P) w ⟨g, 0, none⟩ (l.map byV) (fun j v hv => by
      rw [add_zero]
      refine cell_blk hcur ?_
      rw [← htk, List.getElem?_take] at hv
      split at hv
      · simpa using hv
      · cases hv)
    have e2 : l.map byV = (l.map fun (n : Nat) => (n : Int)).map (Value.int .u8) := by simp [byV]
    rw [List.length_map, e2] at hl
    have h2 := run_bytesToString w ⟨g, 0, none⟩ l.length cap _ hl
    have h3 : (Conv.bytesToString (.slice (some ⟨g, 0, none⟩) l.length cap)).run P w = .ok (.string (strB l)) w := h2
    simp [execOp, hop, hx, h1, h3]
end
theorem own_pushV {w : World} {base : Nat} {e : TypeId} {A : Option Addr} {c : Nat} {l : List Nat} {x : Nat} (h : w.ownsRow base e 1 (.slice A (l.length + 1) c) (l.length + 1) (l.map byV ++ [byV x])) : w.ownsRow base e 1 (.slice A (l ++ [x]).length c) (l ++ [x]).length ((l ++ [x]).map byV) := by
  have e1 : (l ++ [x]).length = l.length + 1 := by simp
  rw [e1, List.map_append]
  exact h
theorem u8_shr_i (a : Int) (j : Nat) (ha : 0 ≤ a) (hj : j < 8) : IntKind.u8.wrap (a / 2 ^ min ((8 * (j : Int))).toNat IntKind.i64.bits) = ((a.toNat / 2 ^ (8 * j) % 256 : Nat) : Int) := by
  have e : min ((8 * (j : Int))).toNat IntKind.i64.bits = 8 * j := by simp [IntKind.bits]; omega
  obtain ⟨m, rfl⟩ : ∃ m : Nat, a = m := ⟨a.toNat, by omega⟩
  rw [e]
  simp [IntKind.wrap, IntKind.signed, IntKind.bits]
theorem u8_shr_u (a : Nat) (j : Nat) (hj : j < 8) : IntKind.u8.wrap ((a : Int) / 2 ^ min ((8 * (j : Int))).toNat IntKind.u64.bits) = ((a / 2 ^ (8 * j) % 256 : Nat) : Int) := by
  have e : min ((8 * (j : Int))).toNat IntKind.u64.bits = 8 * j := by simp [IntKind.bits]; omega
  rw [e]
  simp [IntKind.wrap, IntKind.signed, IntKind.bits]
theorem map_range_next (f : Nat → Nat) (pre : List Nat) (j : Nat) : pre ++ (List.range (j + 1)).map f = (pre ++ (List.range j).map f) ++ [f j] := by
  rw [List.range_succ]; simp
theorem keyB_take {bs : List Blk} {i : Nat} (hi : i < bs.length) : keyB (bs.take (i + 1)) = keyB (bs.take i) ++ keyOf bs[i]! := by
  rw [take_nextB hi]; simp [keyB]
theorem keyB_len : ∀ bs : List Blk, (keyB bs).length = 12 * bs.length
  | [] => rfl
  | b :: bs => by
    have h : keyB (b :: bs) = keyOf b ++ keyB bs := rfl
    rw [h, List.length_append, keyOf_len, keyB_len bs, List.length_cons]
    omega
set_option maxHeartbeats 16000000 in
theorem pKeyL (bs : List Blk) (A : Option Addr) (c : Nat) (v : Option Addr) (w : World) (hr : ∀ b ∈ bs, 0 ≤ b.a) (hl : bs.length ≤ 1099511627776)
    (hlist : Calls Try.prog 47 #[.pointer v] w fun e w' => e = .returned (.slice A bs.length c) ∧ Below w.heap.size w w' ∧ RowR 2 dBlk w' A bs) :
    Calls Try.prog 32 #[.pointer v] w fun e w' => e = .returned (.string (strB (keyB bs))) ∧ Below w.heap.size w w' := by
  refine enterR (args := [.pointer v]) tabOk Try.func32 rfl Try.ntmps32 rfl ?_; conv => whnf
  (repeat' (first | ((first | refine wl_add rfl rfl rfl rfl rfl rfl (by omega) (by omega) (run_l tabOk ?_) | refine wl_mul rfl rfl rfl rfl rfl rfl (by omega) (by omega) (run_l tabOk ?_) | refine gs_dt (by first | assumption | omega) ?_ | refine gs_df (by first | assumption | omega) ?_) <;> conv => whnf) | refine fin1 rfl rfl ?_))
  refine wl_C fn47 hlist rfl rfl rfl rfl rfl rfl rfl ?_
  rintro _ w1 ⟨rfl, hB1, hrow⟩
  refine ⟨_, rfl, run_l tabOk ?_⟩
  conv => whnf
  (repeat' (first | ((first | refine wl_add rfl rfl rfl rfl rfl rfl (by omega) (by omega) (run_l tabOk ?_) | refine wl_mul rfl rfl rfl rfl rfl rfl (by omega) (by omega) (run_l tabOk ?_) | refine gs_dt (by first | assumption | omega) ?_ | refine gs_df (by first | assumption | omega) ?_) <;> conv => whnf) | refine fin1 rfl rfl ?_))
  refine lp_loop tabOk (X := Nat × Option Addr × Nat) (fun x => [(3, .slice x.2.1 (keyB (bs.take x.1)).length x.2.2), (9, .slice A bs.length c), (10, .int .i64 bs.length), (11, .int .i64 x.1)])
    (fun x wr => x.1 ≤ bs.length ∧ wr.ownsRow w1.heap.size 5 1 (.slice x.2.1 (keyB (bs.take x.1)).length x.2.2) (keyB (bs.take x.1)).length ((keyB (bs.take x.1)).map byV) ∧ Below w1.heap.size w1 wr) (fun x => bs.length - x.1) (0, none, 0) ⟨rfl, rfl, rfl, rfl, trivial⟩ ⟨by simp only; omega, own_nil .., Below.refl _ _⟩ ?_
  intro ⟨i, D, dc⟩ G wr ⟨hi, hI, hB⟩
  simp only at hi hI
  dsimp only
  conv => whnf
  by_cases hlt : i < bs.length
  · obtain ⟨ad, rfl, hc⟩ := rowB_at (hrow.up stays_Blk hB) i hlt
    have hrg := hr _ (mem_getB hlt)
    have htk := keyB_take hlt
    have hkl := keyB_len (bs.take i)
    have htl : (bs.take i).length = i := by simp; omega
    generalize keyB (bs.take i) = pre at hI htk hkl
    (repeat' (first | (refine wl_Xn tabOk 82 2 rfl rfl rfl rfl rfl rfl rfl (by omega) (run_l tabOk ?_); conv => whnf) | (refine wl_La tabOk hc rfl rfl rfl rfl rfl rfl (run_l tabOk ?_); conv => whnf) | ((first | refine wl_add rfl rfl rfl rfl rfl rfl (by omega) (by omega) (run_l tabOk ?_) | refine wl_mul rfl rfl rfl rfl rfl rfl (by omega) (by omega) (run_l tabOk ?_) | refine gs_dt (by first | assumption | omega) ?_ | refine gs_df (by first | assumption | omega) ?_) <;> conv => whnf) | refine fin1 rfl rfl ?_))
    refine wl_alloc tabOk rfl rfl rfl rfl rfl rfl ?_
    intro g5 w2 hn2
    refine run_l tabOk ?_
    conv => whnf
    refine wl_Sa tabOk hn2.blk rfl rfl rfl rfl rfl (by simp [Value.oneCell']) rfl rfl ?_
    intro w3 hp3
    have hB2 : Below wr.heap.size wr w3 := hp3.below hn2.below (by have := hn2.at_; omega) (by have := hn2.size; omega)
    have hb5 : w3.heap[g5]? = some (.cells #[.int .i64 bs[i]!.a, .int .u64 (bs[i]!.w : Int)] 82 (0, 0)) := hp3.blk
    have hB02 := bup hB hB2
    have hI3 := hI.kept (grown_of (row := none) hB2) (Classical.em _)
    have hn5 : ∀ k, (Value.slice D pre.length dc).ownBlock = some k → k ≠ g5 := fun k e => by have := (hI.lt k e).2; have := hn2.at_; omega
    refine run_l tabOk ?_
    conv => whnf
    (repeat' (first | ((first | refine wl_add rfl rfl rfl rfl rfl rfl (by omega) (by omega) (run_l tabOk ?_) | refine wl_mul rfl rfl rfl rfl rfl rfl (by omega) (by omega) (run_l tabOk ?_) | refine gs_dt (by first | assumption | omega) ?_ | refine gs_df (by first | assumption | omega) ?_) <;> conv => whnf) | refine fin1 rfl rfl ?_))
    clear hp3 hn2 hI
    refine lp_loop tabOk (X := Option Addr × Nat × Nat) (fun x => [(3, .slice x.1 (pre ++ (List.range x.2.2).map (fun j => bs[i]!.a.toNat / 2 ^ (8 * j) % 256)).length x.2.1), (5, .pointer (some ⟨g5, 0, none⟩)), (9, .slice (some ad) bs.length c), (10, .int .i64 bs.length), (11, .int .i64 i), (15, .int .i64 x.2.2)])
      (fun x wk => x.2.2 ≤ 4 ∧ wk.ownsRow w1.heap.size 5 1 (.slice x.1 (pre ++ (List.range x.2.2).map (fun j => bs[i]!.a.toNat / 2 ^ (8 * j) % 256)).length x.2.1) (pre ++ (List.range x.2.2).map (fun j => bs[i]!.a.toNat / 2 ^ (8 * j) % 256)).length ((pre ++ (List.range x.2.2).map (fun j => bs[i]!.a.toNat / 2 ^ (8 * j) % 256)).map byV) ∧ Below w1.heap.size w1 wk ∧ wk.heap[g5]? = some (.cells #[.int .i64 bs[i]!.a, .int .u64 (bs[i]!.w : Int)] 82 (0, 0)) ∧ (∀ k, (Value.slice x.1 (pre ++ (List.range x.2.2).map (fun j => bs[i]!.a.toNat / 2 ^ (8 * j) % 256)).length x.2.1).ownBlock = some k → k ≠ g5))
      (fun x => 4 - x.2.2) (D, dc, 0) ⟨?_, rfl, rfl, rfl, rfl, rfl, trivial⟩ ⟨by simp, by simpa using hI3, hB02, hb5, by simpa using hn5⟩ ?_
    · exact congrArg (fun z => Value.slice D z dc) (by simp : pre.length = (pre ++ (List.range 0).map (fun j => bs[i]!.a.toNat / 2 ^ (8 * j) % 256)).length)
    clear hb5 hI3 hB02 hn5
    intro ⟨E, ec, j⟩ G2 wk ⟨hj, hI, hBk, hb5, hg5⟩
    simp only at hj hI hg5
    dsimp only
    conv => whnf
    by_cases hj4 : j < 4
    · have hnx := map_range_next (fun j => bs[i]!.a.toNat / 2 ^ (8 * j) % 256) pre j
      have hplen : (pre ++ (List.range j).map (fun j => bs[i]!.a.toNat / 2 ^ (8 * j) % 256)).length = pre.length + j := by simp
      generalize pre ++ (List.range j).map (fun j => bs[i]!.a.toNat / 2 ^ (8 * j) % 256) = pj at hI hnx hplen hg5
      obtain ⟨bt, hbt⟩ : ∃ bt, bt = bs[i]!.a.toNat / 2 ^ (8 * j) % 256 := ⟨_, rfl⟩
      have hu8 := u8_shr_i bs[i]!.a j hrg (by omega)
      rw [← hbt] at hu8
      (repeat' (first | (refine wl_Lg tabOk hb5 rfl rfl rfl rfl rfl rfl rfl (run_l tabOk ?_); conv => whnf) | ((first | refine wl_add rfl rfl rfl rfl rfl rfl (by omega) (by omega) (run_l tabOk ?_) | refine wl_mul rfl rfl rfl rfl rfl rfl (by omega) (by omega) (run_l tabOk ?_) | refine gs_dt (by first | assumption | omega) ?_ | refine gs_df (by first | assumption | omega) ?_) <;> conv => whnf) | refine fin1 rfl rfl ?_))
      refine wl_shr (r := bs[i]!.a / 2 ^ min (8 * (j : Int)).toNat IntKind.i64.bits) rfl rfl rfl rfl (by omega) rfl rfl rfl (run_l tabOk ?_); conv => whnf
      refine wl_cvB tabOk rfl rfl rfl rfl rfl rfl ?_
      rw [hu8]
      refine run_l tabOk ?_
      conv => whnf
      refine wl_bs tabOk 5 1 rfl rfl rfl rfl rfl rfl rfl rfl rfl rfl ?_
      intro g8 u1 hn8
      refine run_l tabOk ?_
      conv => whnf
      have hIu := hI.kept (grown_of (row := none) hn8.below) (Classical.em _)
      have hks := hBk.size
      refine wl_ap tabOk 5 1 1 hIu hn8.blk rfl rfl rfl rfl rfl rfl rfl rfl rfl rfl rfl rfl (by simp [Value.oneCell']) (by omega) (by omega) (by have := hn8.size; omega) ?_
      intro A7 cap7 u2 hown hgr hob
      have hpush := own_pushV (x := bt) hown
      have hgk : wk.grownBy u2 (Value.slice E pj.length ec).ownBlock := grown_trans (grown_of hn8.below) hgr
      have hBu : Below w1.heap.size w1 u2 := hBk.grown hgk hks (fun k e => (hI.lt k e).1)
      have hb5u := (hgk.block g5 (blk_lt hb5) (fun e => hg5 g5 e.symm rfl)).trans hb5
      have hg5u : ∀ k, (Value.slice A7 (pj.length + 1) cap7).ownBlock = some k → k ≠ g5 := fun k e => by
        rcases hob with h1 | h1
        · exact hg5 k (h1.symm.trans e)
        · rw [e] at h1
          have := blk_lt hb5
          have := hn8.size
          cases h1
          omega
      have el : pj.length + 1 = (pj ++ [bt]).length := by simp
      rw [el] at hg5u
      refine run_l tabOk ?_
      conv => whnf
      rw [el]
      (repeat' (first | ((first | refine wl_add rfl rfl rfl rfl rfl rfl (by omega) (by omega) (run_l tabOk ?_) | refine wl_mul rfl rfl rfl rfl rfl rfl (by omega) (by omega) (run_l tabOk ?_) | refine gs_dt (by first | assumption | omega) ?_ | refine gs_df (by first | assumption | omega) ?_) <;> conv => whnf) | refine fin1 rfl rfl ?_))
      rw [hbt] at hpush hg5u ⊢
      rw [← hnx] at hpush hg5u ⊢
      exact ⟨(A7, cap7, j + 1), ⟨rfl, rfl, rfl, rfl, rfl, rfl, trivial⟩, ⟨by simp only; omega, hpush, hBu, hb5u, hg5u⟩, by simp only; omega⟩
    · have e4 : j = 4 := by omega
      (repeat' (first | ((first | refine wl_add rfl rfl rfl rfl rfl rfl (by omega) (by omega) (run_l tabOk ?_) | refine wl_mul rfl rfl rfl rfl rfl rfl (by omega) (by omega) (run_l tabOk ?_) | refine gs_dt (by first | assumption | omega) ?_ | refine gs_df (by first | assumption | omega) ?_) <;> conv => whnf) | refine fin1 rfl rfl ?_))
      subst e4
      obtain ⟨pre2, hpre2⟩ : ∃ p2, p2 = pre ++ (List.range 4).map (fun j => bs[i]!.a.toNat / 2 ^ (8 * j) % 256) := ⟨_, rfl⟩
      have hp2l : pre2.length = pre.length + 4 := by rw [hpre2]; simp
      rw [← hpre2] at hI hg5 ⊢
      refine lp_loop tabOk (X := Option Addr × Nat × Nat) (fun x => [(3, .slice x.1 (pre2 ++ (List.range x.2.2).map (fun j => bs[i]!.w / 2 ^ (8 * j) % 256)).length x.2.1), (5, .pointer (some ⟨g5, 0, none⟩)), (9, .slice (some ad) bs.length c), (10, .int .i64 bs.length), (11, .int .i64 i), (28, .int .i64 x.2.2)])
        (fun x wk => x.2.2 ≤ 8 ∧ wk.ownsRow w1.heap.size 5 1 (.slice x.1 (pre2 ++ (List.range x.2.2).map (fun j => bs[i]!.w / 2 ^ (8 * j) % 256)).length x.2.1) (pre2 ++ (List.range x.2.2).map (fun j => bs[i]!.w / 2 ^ (8 * j) % 256)).length ((pre2 ++ (List.range x.2.2).map (fun j => bs[i]!.w / 2 ^ (8 * j) % 256)).map byV) ∧ Below w1.heap.size w1 wk ∧ wk.heap[g5]? = some (.cells #[.int .i64 bs[i]!.a, .int .u64 (bs[i]!.w : Int)] 82 (0, 0)) ∧ (∀ k, (Value.slice x.1 (pre2 ++ (List.range x.2.2).map (fun j => bs[i]!.w / 2 ^ (8 * j) % 256)).length x.2.1).ownBlock = some k → k ≠ g5))
        (fun x => 8 - x.2.2) (E, ec, 0) ⟨?_, rfl, rfl, rfl, rfl, rfl, trivial⟩ ⟨by simp, by simpa using hI, hBk, hb5, by simpa using hg5⟩ ?_
      · exact congrArg (fun z => Value.slice E z ec) (by simp : pre2.length = (pre2 ++ (List.range 0).map (fun j => bs[i]!.w / 2 ^ (8 * j) % 256)).length)
      clear hb5 hI hBk hg5
      intro ⟨E, ec, j⟩ G2 wk ⟨hj, hI, hBk, hb5, hg5⟩
      simp only at hj hI hg5
      dsimp only
      conv => whnf
      by_cases hj4 : j < 8
      · have hnx := map_range_next (fun j => bs[i]!.w / 2 ^ (8 * j) % 256) pre2 j
        have hplen : (pre2 ++ (List.range j).map (fun j => bs[i]!.w / 2 ^ (8 * j) % 256)).length = pre2.length + j := by simp
        generalize pre2 ++ (List.range j).map (fun j => bs[i]!.w / 2 ^ (8 * j) % 256) = pj at hI hnx hplen hg5
        obtain ⟨bt, hbt⟩ : ∃ bt, bt = bs[i]!.w / 2 ^ (8 * j) % 256 := ⟨_, rfl⟩
        have hu8 := u8_shr_u bs[i]!.w j (by omega)
        rw [← hbt] at hu8
        (repeat' (first | (refine wl_Lg tabOk hb5 rfl rfl rfl rfl rfl rfl rfl (run_l tabOk ?_); conv => whnf) | ((first | refine wl_add rfl rfl rfl rfl rfl rfl (by omega) (by omega) (run_l tabOk ?_) | refine wl_mul rfl rfl rfl rfl rfl rfl (by omega) (by omega) (run_l tabOk ?_) | refine gs_dt (by first | assumption | omega) ?_ | refine gs_df (by first | assumption | omega) ?_) <;> conv => whnf) | refine fin1 rfl rfl ?_))
        refine wl_shr (r := (bs[i]!.w : Int) / 2 ^ min (8 * (j : Int)).toNat IntKind.u64.bits) rfl rfl rfl rfl (by omega) rfl rfl rfl (run_l tabOk ?_); conv => whnf
        refine wl_cvB tabOk rfl rfl rfl rfl rfl rfl ?_
        rw [hu8]
        refine run_l tabOk ?_
        conv => whnf
        refine wl_bs tabOk 5 1 rfl rfl rfl rfl rfl rfl rfl rfl rfl rfl ?_
        intro g8 u1 hn8
        refine run_l tabOk ?_
        conv => whnf
        have hIu := hI.kept (grown_of (row := none) hn8.below) (Classical.em _)
        have hks := hBk.size
        refine wl_ap tabOk 5 1 1 hIu hn8.blk rfl rfl rfl rfl rfl rfl rfl rfl rfl rfl rfl rfl (by simp [Value.oneCell']) (by omega) (by omega) (by have := hn8.size; omega) ?_
        intro A7 cap7 u2 hown hgr hob
        have hpush := own_pushV (x := bt) hown
        have hgk : wk.grownBy u2 (Value.slice E pj.length ec).ownBlock := grown_trans (grown_of hn8.below) hgr
        have hBu : Below w1.heap.size w1 u2 := hBk.grown hgk hks (fun k e => (hI.lt k e).1)
        have hb5u := (hgk.block g5 (blk_lt hb5) (fun e => hg5 g5 e.symm rfl)).trans hb5
        have hg5u : ∀ k, (Value.slice A7 (pj.length + 1) cap7).ownBlock = some k → k ≠ g5 := fun k e => by
          rcases hob with h1 | h1
          · exact hg5 k (h1.symm.trans e)
          · rw [e] at h1
            have := blk_lt hb5
            have := hn8.size
            cases h1
            omega
        have el : pj.length + 1 = (pj ++ [bt]).length := by simp
        rw [el] at hg5u
        refine run_l tabOk ?_
        conv => whnf
        rw [el]
        (repeat' (first | ((first | refine wl_add rfl rfl rfl rfl rfl rfl (by omega) (by omega) (run_l tabOk ?_) | refine wl_mul rfl rfl rfl rfl rfl rfl (by omega) (by omega) (run_l tabOk ?_) | refine gs_dt (by first | assumption | omega) ?_ | refine gs_df (by first | assumption | omega) ?_) <;> conv => whnf) | refine fin1 rfl rfl ?_))
        rw [hbt] at hpush hg5u ⊢
        rw [← hnx] at hpush hg5u ⊢
        exact ⟨(A7, cap7, j + 1), ⟨rfl, rfl, rfl, rfl, rfl, rfl, trivial⟩, ⟨by simp only; omega, hpush, hBu, hb5u, hg5u⟩, by simp only; omega⟩
      · have e8 : j = 8 := by omega
        (repeat' (first | ((first | refine wl_add rfl rfl rfl rfl rfl rfl (by omega) (by omega) (run_l tabOk ?_) | refine wl_mul rfl rfl rfl rfl rfl rfl (by omega) (by omega) (run_l tabOk ?_) | refine gs_dt (by first | assumption | omega) ?_ | refine gs_df (by first | assumption | omega) ?_) <;> conv => whnf) | refine fin1 rfl rfl ?_))
        subst e8
        have hfin : pre2 ++ (List.range 8).map (fun j => bs[i]!.w / 2 ^ (8 * j) % 256) = keyB (bs.take (i + 1)) := by
          rw [htk, hpre2]
          simp [keyOf, List.append_assoc]
        rw [hfin] at hI ⊢
        exact ⟨(i + 1, E, ec), ⟨rfl, rfl, rfl, rfl, trivial⟩, ⟨by simp only; omega, hI, hBk⟩, by simp only; omega⟩
  · (repeat' (first | ((first | refine wl_add rfl rfl rfl rfl rfl rfl (by omega) (by omega) (run_l tabOk ?_) | refine wl_mul rfl rfl rfl rfl rfl rfl (by omega) (by omega) (run_l tabOk ?_) | refine gs_dt (by first | assumption | omega) ?_ | refine gs_df (by first | assumption | omega) ?_) <;> conv => whnf) | refine fin1 rfl rfl ?_))
    have : bs.take i = bs := List.take_of_length_le (by omega)
    rw [this] at hI ⊢
    refine wl_str rfl rfl Try.underlying91 Try.underlying5 Try.underlying9 hI rfl rfl rfl (run_l tabOk ?_); conv => whnf
    (repeat' (first | ((first | refine wl_add rfl rfl rfl rfl rfl rfl (by omega) (by omega) (run_l tabOk ?_) | refine wl_mul rfl rfl rfl rfl rfl rfl (by omega) (by omega) (run_l tabOk ?_) | refine gs_dt (by first | assumption | omega) ?_ | refine gs_df (by first | assumption | omega) ?_) <;> conv => whnf) | refine fin1 rfl rfl ?_))
    exact ⟨rfl, bup hB1 hB⟩
theorem pKey {base g : Nat} {w : World} {bs : List Blk} {fp : List Nat} (hP : PSet base g w bs fp) (hl : bs.length ≤ 1099511627776) :
    Calls Try.prog 32 #[.pointer (some ⟨g, 0, none⟩)] w fun e w' => e = .returned (.string (strB (keyB bs))) ∧ Below w.heap.size w w' := by
  obtain ⟨V, hb, ho, hfp, hne⟩ := hP.ex
  obtain ⟨A, c, rfl, hlc, hrow⟩ := ho.row
  refine pKeyL bs A c (some ⟨g, 0, none⟩) w (fun b hb => (hP.wf.rng b hb).1) hl ((pList hP).mono fun e w' ⟨A', c', he, hb', _, hr', hB⟩ => ?_)
  rw [hb] at hb'
  simp only [Option.some.injEq, Obj.cells.injEq, and_true, Array.mk.injEq, List.cons.injEq, Value.slice.injEq, true_and] at hb'
  obtain ⟨rfl, rfl⟩ := hb'
  exact ⟨he, hB, hr'.up stays_Blk hB⟩
end Go.Proofs.Ytjggjhgbobmkhaa
