/- epicycleref24.At. -/
import Derived.Test.YtemoginoanhjlaaGreatEx24
import Derived.Test.YtemoginoanhjlaaGreatWTwidToRdB
set_option linter.unusedVariables false
set_option linter.unusedSimpArgs false
set_option linter.unusedSectionVars false
set_option linter.unusedVariables false
set_option linter.unusedSimpArgs false
namespace Go.Proofs.YtemoginoanhjlaaGreat
open Go.RowKit
open Alg
/-- The list X is the sizes L with the signs S. -/
def Sgd (X L : List Int) (S : List Bool) : Prop := X.length = L.length ∧ S.length = L.length ∧ ∀ i, i < L.length → X.getD i 0 = sgI (S.getD i false) (L.getD i 0)
/-- Going round 2^192. -/
def w192m (x : Nat) : Nat := x % 6277101735386680763835789423207666416102355444464034512896
theorem w192m_lt (x : Nat) : w192m x < 6277101735386680763835789423207666416102355444464034512896 := by unfold w192m; omega
theorem three_w192m (x : Nat) : three (w192m x) = three x := three_mod x
set_option maxHeartbeats 8000000 in
set_option maxRecDepth 100000 in
theorem r24at_any (A C D E : Option Addr) (cA cC cD cE : Nat) (L M X Y : List Int) (S T : List Bool) (k : Nat) (w : World) (hk : k ≤ 4096) (hl : L.length ≤ 140737488351232) (hm : M.length ≤ 140737488351232) (hU : U64s L) (hU' : U64s M) (hX : Sgd X L S) (hY : Sgd Y M T)
    (hA : RdI w w.heap.size .u64 A L) (hS : RdB w w.heap.size C S) (hB : RdI w w.heap.size .u64 D M) (hT : RdB w w.heap.size E T) :
    Calls Tryz.prog 30 #[.slice A L.length cA, .slice C L.length cC, .slice D M.length cD, .slice E M.length cE, .int .i64 (k : Int)] w fun e w' => e = .returned (.agg (three (w192 (cI X Y k)))) ∧ Below w.heap.size w w' := by
  have hz := (zero_of_info info_bits).1
  have hz3 := (zero_of_info info_words).1
  have R0 : Hid (RowAt ((w.alloc (.cells (three 0) 58)).alloc (.cells (bcells 0) 114)) w.heap.size 58 (three 0) ∧ RowAt ((w.alloc (.cells (three 0) 58)).alloc (.cells (bcells 0) 114)) (w.heap.size + 1) 114 (bcells (atN X Y k 0)) ∧ Below w.heap.size w ((w.alloc (.cells (three 0) 58)).alloc (.cells (bcells 0) 114))) := Lib.hid (lay2 w 58 114 (three 0) (bcells 0))
  have HU := Lib.hid hU
  have HU' := Lib.hid hU'
  have HX := Lib.hid hX
  have HY := Lib.hid hY
  have HA := Lib.hid hA
  have HSl := Lib.hid hS
  have HB := Lib.hid hB
  have HTl := Lib.hid hT
  have KI : Hid (∀ W W' t, (RowAt W w.heap.size 58 (three 0) ∧ RowAt W (w.heap.size + 1) 114 (bcells t) ∧ Below w.heap.size w W) → Below W.heap.size W W' → (RowAt W' w.heap.size 58 (three 0) ∧ RowAt W' (w.heap.size + 1) 114 (bcells t) ∧ Below w.heap.size w W')) := Lib.hid (fun W W' t h hB => ⟨h.1.keep hB, h.2.1.keep hB, h.2.2.trans (hB.mono h.2.2.size)⟩)
  clear hU hU' hX hY hA hS hB hT
  go_enter Tryz.func30, Tryz.ntmps30
  go_wp2_with fail
  generalize ((w.alloc (.cells (three 0) 58)).alloc (.cells (bcells 0) 114)) = w1 at *
  go_loopw [17] (fun I wr => ∃ i : Nat, I = .int .i64 i ∧ i ≤ L.length ∧ Hid (RowAt wr w.heap.size 58 (three 0) ∧ RowAt wr (w.heap.size + 1) 114 (bcells (atN X Y k i)) ∧ Below w.heap.size w wr)) (fun I _ => L.length - (intOf I).toNat)
  case atStart => exact ⟨0, rfl, by omega, R0⟩
  case round =>
    clear R0
    obtain ⟨i, rfl, hi, Q⟩ := hrel
    by_cases hlt : i < L.length
    · obtain ⟨bA, oA, hAe, hbA, hcA⟩ := HA.out (by omega)
      have c0 := cell_keep Q.out.2.2 hbA (hcA i hlt)
      have hu0 := HU.out.at hlt
      obtain ⟨u, hu⟩ := Int.eq_ofNat_of_zero_le hu0.1
      have HUu := Lib.hid hu
      rw [hu] at c0 hu0
      have hu1 : u < 18446744073709551616 := by omega
      subst hAe
      clear hcA hu0 hu
      by_cases hki : k < i
      · have e1 : decide ((k : Int) - (i : Int) < 0) = true := decide_eq_true (by omega)
        have f0 : -4294967296 ≤ (k : Int) - (i : Int) ∨ True := .inr trivial
        have Q1 : Hid (RowAt wr w.heap.size 58 (three 0) ∧ RowAt wr (w.heap.size + 1) 114 (bcells (atN X Y k (i + 1))) ∧ Below w.heap.size w wr) := Lib.hid (by rw [atN_skip (.inl hki)]; exact Q.out)
        clear Q f0
        go_wp2
        go_roundw
        case rel => exact ⟨i + 1, by go_num, by omega, Q1⟩
        case measure => simp [intOf]; omega
      · obtain ⟨j, hj⟩ : ∃ j, k = i + j := ⟨k - i, by omega⟩
        have hkj : (k : Int) - (i : Int) = (j : Int) := by omega
        have e1 : decide ((j : Int) < 0) = false := decide_eq_false (by omega)
        have HKJ := Lib.hid hj
        by_cases hjm : M.length ≤ j
        · have e2 : decide (M.length ≤ j) = true := decide_eq_true hjm
          have Q1 : Hid (RowAt wr w.heap.size 58 (three 0) ∧ RowAt wr (w.heap.size + 1) 114 (bcells (atN X Y k (i + 1))) ∧ Below w.heap.size w wr) := Lib.hid (by rw [atN_skip (.inr (by rw [HY.out.1]; omega))]; exact Q.out)
          clear Q hj
          go_wp2
          go_roundw
          case rel => exact ⟨i + 1, by go_num, by omega, Q1⟩
          case measure => simp [intOf]; omega
        · have hj0 : (0 : Int) ≤ (j : Int) := by omega
          have hj1 : (j : Int) < (M.length : Int) := by omega
          have e2 : decide (M.length ≤ j) = false := decide_eq_false hjm
          obtain ⟨bB, oB, hBe, hbB, hcB⟩ := HB.out (by omega)
          obtain ⟨bS, oS, hSe, hbS, hcS⟩ := HSl.out (by rw [HX.out.2.1]; omega)
          obtain ⟨bT, oT, hTe, hbT, hcT⟩ := HTl.out (by rw [HY.out.2.1]; omega)
          subst hBe hSe hTe
          have hv0 := HU'.out.at (show j < M.length by omega)
          obtain ⟨v, hv⟩ := Int.eq_ofNat_of_zero_le hv0.1
          have hv1 : v < 18446744073709551616 := by omega
          obtain ⟨si, hsi⟩ : ∃ si, si = S.getD i false := ⟨_, rfl⟩
          obtain ⟨tj, htj⟩ : ∃ tj, tj = T.getD j false := ⟨_, rfl⟩
          obtain ⟨σ, hσ⟩ : ∃ σ, (si != tj) = σ := ⟨_, rfl⟩
          have HS6 : Hid (∀ W, Below w.heap.size w W → W.cell? ⟨bB, oB + j, none⟩ = some (.int .u64 (v : Int))) := Lib.hid (fun W hW => by rw [← hv]; exact cell_keep hW hbB (hcB j (by omega)))
          have HS7 : Hid (∀ W, Below w.heap.size w W → W.cell? ⟨bS, oS + i, none⟩ = some (.bool si) ∧ W.cell? ⟨bT, oT + j, none⟩ = some (.bool tj)) := Lib.hid (fun W hW => ⟨by rw [hsi]; exact cell_keep hW hbS (hcS i (by rw [HX.out.2.1]; omega)), by rw [htj]; exact cell_keep hW hbT (hcT j (by rw [HY.out.2.1]; omega))⟩)
          have HNX : Hid (w192m (atN X Y k i + (if σ = true then turn (u * v) else u * v)) = atN X Y k (i + 1)) := Lib.hid (by
            have h1 := atN_next (A := X) (B := Y) (k := k) (i := i) (by omega) (s := si) (t := tj) (u := u) (v := v) (by rw [HX.out.2.2 i hlt, HUu.out, hsi]) (by rw [show k - i = j by omega, HY.out.2.2 j (by omega), hv, htj])
            rw [hσ] at h1
            exact h1)
          have HNu := Lib.hid (fun W => r24number_any u hu1 W)
          have HPr := Lib.hid (fun W => r1prod_any u v hv1 W)
          obtain ⟨t, ht⟩ : ∃ t, t = u * v := ⟨_, rfl⟩
          rw [← ht] at HNX HPr
          obtain ⟨s, hs⟩ : ∃ s, s = atN X Y k i := ⟨_, rfl⟩
          rw [← hs] at HNX Q
          have KQ : Hid (∀ W W' N x, (RowAt W w.heap.size 58 (three 0) ∧ RowAt W (w.heap.size + 1) 114 (bcells s) ∧ RowAt W N 114 (bcells x) ∧ Below w.heap.size w W) → Below W.heap.size W W' → (RowAt W' w.heap.size 58 (three 0) ∧ RowAt W' (w.heap.size + 1) 114 (bcells s) ∧ RowAt W' N 114 (bcells x) ∧ Below w.heap.size w W')) := Lib.hid (fun W W' N x h hB => ⟨h.1.keep hB, h.2.1.keep hB, h.2.2.1.keep hB, h.2.2.2.trans (hB.mono h.2.2.2.size)⟩)
          have z0 : Hid (RowAt (wr.drewN 1) w.heap.size 58 (three 0) ∧ RowAt (wr.drewN 1) (w.heap.size + 1) 114 (bcells s) ∧ Below w.heap.size w (wr.drewN 1)) := Lib.hid (KI.out _ _ _ Q.out (below_drewN (Below.refl _ _) 1))
          have hN0 : w.heap.size + 1 < wr.heap.size := Q.out.2.1.lt
          have twk : IntKind.i64.wrap ((k : Int) - (i : Int)) = (j : Int) := by rw [hkj]; exact IntWalk.i64_in _ (by omega)
          have twj : IntKind.i64.wrap (j : Int) = (j : Int) := IntWalk.i64_in _ (by omega)
          clear hs ht hsi htj hv0 hv hcB hcS hcT Q hj
          go_wp2_with fail
          change (Code.region _ _ true).wp _ _ _ _
          refine wp_region_held_drew (S := fun wz => wz.cell? ⟨bB, oB + j, none⟩ = some (.int .u64 (v : Int))) (by kernel_rfl) ((HS6.out _ z0.out.2.2)) (fun hHeld => ?_)
          refine wpAnyH_take (i := 0) (v := ?_) rfl (by kernel_rfl) (by kernel_rfl) (by kernel_rfl) (fun _ _ _ h => h) (Or.inl ⟨by rfl, ?_⟩) (HS6.out _ z0.out.2.2) ?_
          rotate_left
          · intro w hSw; (try dsimp only at hSw); go_simp; try with_reducible rfl
          try simp only [Act.put, List.getElem_toArray, List.getElem_cons_zero, List.getElem_cons_succ, List.setIfInBounds_toArray, List.set_cons_zero, List.set_cons_succ]
          refine wpAnyH_take (i := 2) (v := ?_) rfl (by kernel_rfl) (by kernel_rfl) (by kernel_rfl) (fun _ _ _ h => h) (Or.inl ⟨by rfl, ?_⟩) (HS6.out _ z0.out.2.2) ?_
          rotate_left
          · intro w hSw; (try dsimp only at hSw); go_simp; try with_reducible rfl
          try simp only [Act.put, List.getElem_toArray, List.getElem_cons_zero, List.getElem_cons_succ, List.setIfInBounds_toArray, List.set_cons_zero, List.set_cons_succ]
          refine wpAnyH_take (i := 3) (v := ?_) rfl (by kernel_rfl) (by kernel_rfl) (by kernel_rfl) (fun _ _ _ h => h) (Or.inl ⟨by rfl, ?_⟩) (HS6.out _ z0.out.2.2) ?_
          rotate_left
          · intro w hSw; (try dsimp only at hSw); go_simp; try with_reducible rfl
          try simp only [Act.put, List.getElem_toArray, List.getElem_cons_zero, List.getElem_cons_succ, List.setIfInBounds_toArray, List.set_cons_zero, List.set_cons_succ]
          refine wpAnyH_take (i := 4) (v := ?_) rfl (by kernel_rfl) (by kernel_rfl) (by kernel_rfl) (fun _ _ _ h => h) (Or.inl ⟨by rfl, ?_⟩) (HS6.out _ z0.out.2.2) ?_
          rotate_left
          · intro w hSw; (try dsimp only at hSw); go_simp; try with_reducible rfl
          try simp only [Act.put, List.getElem_toArray, List.getElem_cons_zero, List.getElem_cons_succ, List.setIfInBounds_toArray, List.set_cons_zero, List.set_cons_succ]
          refine wpAnyH_take (i := 5) (v := ?_) rfl (by kernel_rfl) (by kernel_rfl) (by kernel_rfl) (fun _ _ _ h => h) (Or.inl ⟨by rfl, ?_⟩) (HS6.out _ z0.out.2.2) ?_
          rotate_left
          · intro w hSw; (try dsimp only at hSw); go_simp; try with_reducible rfl
          try simp only [Act.put, List.getElem_toArray, List.getElem_cons_zero, List.getElem_cons_succ, List.setIfInBounds_toArray, List.set_cons_zero, List.set_cons_succ]
          refine wpAnyH_take (i := 6) (v := ?_) rfl (by kernel_rfl) (by kernel_rfl) (by kernel_rfl) (fun _ _ _ h => h) (Or.inl ⟨by rfl, ?_⟩) (HS6.out _ z0.out.2.2) ?_
          rotate_left
          · intro w hSw; (try dsimp only at hSw); go_simp; try with_reducible rfl
          try simp only [Act.put, List.getElem_toArray, List.getElem_cons_zero, List.getElem_cons_succ, List.setIfInBounds_toArray, List.set_cons_zero, List.set_cons_succ]
          refine wpAnyH_take (i := 7) (v := ?_) rfl (by kernel_rfl) (by kernel_rfl) (by kernel_rfl) (fun _ _ _ h => h) (Or.inl ⟨by rfl, ?_⟩) (HS6.out _ z0.out.2.2) ?_
          rotate_left
          · intro w hSw; (try dsimp only at hSw); go_simp; try with_reducible rfl
          try simp only [Act.put, List.getElem_toArray, List.getElem_cons_zero, List.getElem_cons_succ, List.setIfInBounds_toArray, List.set_cons_zero, List.set_cons_succ]
          refine wpAnyH_ready (rs := [1, 9]) (by kernel_rfl) (by simp) ?_
          refine AllReadyH.cons rfl (fun K hK => ?_) ?_
          · try simp only [List.getElem_toArray, List.getElem_cons_zero, List.getElem_cons_succ]
            rw [if_pos (by rfl)]
            go_wp2_with (go_at_call 69; refine (HNu.out _).mono ?_; rintro e y1 ⟨rfl, hY⟩)
            have z1 := Lib.hid (KI.out _ _ _ z0.out hY)
            clear hY
            refine hK.out _ _ ((HS6.out _ z1.out.2.2)) (fun _ => ?_)
            clear hK K
            try simp only [Act.put, List.getElem_toArray, List.getElem_cons_zero, List.getElem_cons_succ, List.setIfInBounds_toArray, List.set_cons_zero, List.set_cons_succ]
            refine wpAnyH_ready (rs := [8, 9]) (by kernel_rfl) (by simp) ?_
            refine AllReadyH.cons rfl (fun K hK => ?_) ?_
            · try simp only [List.getElem_toArray, List.getElem_cons_zero, List.getElem_cons_succ]
              rw [if_pos (by rfl)]
              go_wp2_with (go_at_call 68; refine (HPr.out _).mono ?_; rintro e y8 ⟨rfl, hY⟩)
              have z8 := Lib.hid (KI.out _ _ _ z1.out hY)
              clear hY
              refine hK.out _ _ ((HS6.out _ z8.out.2.2)) (fun _ => ?_)
              clear hK K
              try simp only [Act.put, List.getElem_toArray, List.getElem_cons_zero, List.getElem_cons_succ, List.setIfInBounds_toArray, List.set_cons_zero, List.set_cons_succ]
              refine wpAnyH_ready (rs := [9]) (by kernel_rfl) (by simp) ?_
              refine AllReadyH.cons rfl (fun K hK => ?_) AllReadyH.nil
              try simp only [List.getElem_toArray, List.getElem_cons_zero, List.getElem_cons_succ]
              rw [if_pos (by rfl)]
              go_wp2_with fail
              have n9 := Lib.hid (RowAt.new y8 114 (bcells 0))
              have l9 : w.heap.size + 1 < (y8).heap.size := z8.out.2.1.lt
              have z9 : Hid (RowAt ((y8).alloc (.cells (bcells 0) 114)) w.heap.size 58 (three 0) ∧ RowAt ((y8).alloc (.cells (bcells 0) 114)) (w.heap.size + 1) 114 (bcells s) ∧ Below w.heap.size w ((y8).alloc (.cells (bcells 0) 114))) := Lib.hid ⟨z8.out.1.alloc _, z8.out.2.1.alloc _, z8.out.2.2.alloc z8.out.2.2.size _⟩
              refine hK.out _ _ ((HS6.out _ z9.out.2.2)) (fun _ => ?_)
              clear hK K
              try simp only [Act.put, List.getElem_toArray, List.getElem_cons_zero, List.getElem_cons_succ, List.setIfInBounds_toArray, List.set_cons_zero, List.set_cons_succ]
              refine wpAnyH_ready (rs := [10]) (by kernel_rfl) (by simp) ?_
              refine AllReadyH.cons rfl (fun K hK => ?_) AllReadyH.nil
              try simp only [List.getElem_toArray, List.getElem_cons_zero, List.getElem_cons_succ]
              rw [if_pos (by rfl)]
              refine wp_store_row _ _ _ rfl _ _ rfl rfl _ _ (n9.out) size_bits rfl (bcells_one _) ?_
              have zz : Hid (RowAt ((y8.alloc (.cells (bcells 0) 114)).setRow y8.heap.size (bcells t)) w.heap.size 58 (three 0) ∧ RowAt ((y8.alloc (.cells (bcells 0) 114)).setRow y8.heap.size (bcells t)) (w.heap.size + 1) 114 (bcells s) ∧ RowAt ((y8.alloc (.cells (bcells 0) 114)).setRow y8.heap.size (bcells t)) y8.heap.size 114 (bcells t) ∧ Below w.heap.size w ((y8.alloc (.cells (bcells 0) 114)).setRow y8.heap.size (bcells t))) := Lib.hid ⟨z9.out.1.setRowOther _ _ (by have := z9.out.2.1.lt; have := n9.out.lt; omega), z9.out.2.1.setRowOther _ _ (by omega), n9.out.setRow _, below_setRow z9.out.2.2 (by omega) _⟩
              refine hK.out _ _ ((HS6.out _ zz.out.2.2.2)) (fun _ => ?_)
              clear hK K
              try simp only [Act.put, List.getElem_toArray, List.getElem_cons_zero, List.getElem_cons_succ, List.setIfInBounds_toArray, List.set_cons_zero, List.set_cons_succ]
              refine wpAnyH_done (by kernel_rfl) ?_ _
              obtain ⟨N, hN⟩ : ∃ N, N = y8.heap.size := ⟨_, rfl⟩
              have hN1 : w.heap.size + 1 < N := by rw [hN]; omega
              rw [← hN] at zz ⊢
              generalize (y8.alloc (.cells (bcells 0) 114)).setRow N (bcells t) = w6 at *
              clear hN
              cases σ with
              | true =>
                have htj : tj = (!si) := by revert hσ; cases si <;> cases tj <;> simp
                subst htj
                clear hσ
                go_wp2_with fail
                have zq : Hid (RowAt (w6.drewN 1) w.heap.size 58 (three 0) ∧ RowAt (w6.drewN 1) (w.heap.size + 1) 114 (bcells s) ∧ RowAt (w6.drewN 1) N 114 (bcells t) ∧ Below w.heap.size w (w6.drewN 1)) := Lib.hid (KQ.out _ _ _ _ zz.out (below_drewN (Below.refl _ _) 1))
                change (Code.region _ _ true).wp _ _ _ _
                refine wp_region_held_drew (S := fun wz => wz.cell? ⟨bS, oS + i, none⟩ = some (.bool si) ∧ wz.cell? ⟨bT, oT + j, none⟩ = some (.bool (!si))) (by kernel_rfl) (HS7.out _ zq.out.2.2.2) (fun hHeld => ?_)
                refine wpAnyH_take (i := 0) (v := ?_) rfl (by kernel_rfl) (by kernel_rfl) (by kernel_rfl) (fun _ _ _ h => h) (Or.inl ⟨by rfl, ?_⟩) (HS7.out _ zq.out.2.2.2) ?_
                rotate_left
                · intro w hSw; (try dsimp only at hSw); go_simp; try with_reducible rfl
                try simp only [Act.put, List.getElem_toArray, List.getElem_cons_zero, List.getElem_cons_succ, List.setIfInBounds_toArray, List.set_cons_zero, List.set_cons_succ]
                refine wpAnyH_take (i := 1) (v := ?_) rfl (by kernel_rfl) (by kernel_rfl) (by kernel_rfl) (fun _ _ _ h => h) (Or.inl ⟨by rfl, ?_⟩) (HS7.out _ zq.out.2.2.2) ?_
                rotate_left
                · intro w hSw; (try dsimp only at hSw); go_simp; try with_reducible rfl
                try simp only [Act.put, List.getElem_toArray, List.getElem_cons_zero, List.getElem_cons_succ, List.setIfInBounds_toArray, List.set_cons_zero, List.set_cons_succ]
                refine wpAnyH_take (i := 2) (v := ?_) rfl (by kernel_rfl) (by kernel_rfl) (by kernel_rfl) (fun _ _ _ h => h) (Or.inl ⟨by rfl, ?_⟩) (HS7.out _ zq.out.2.2.2) ?_
                rotate_left
                · intro w hSw; (try dsimp only at hSw); go_simp; try with_reducible rfl
                try simp only [Act.put, List.getElem_toArray, List.getElem_cons_zero, List.getElem_cons_succ, List.setIfInBounds_toArray, List.set_cons_zero, List.set_cons_succ]
                refine wpAnyH_take (i := 3) (v := ?_) rfl (by kernel_rfl) (by kernel_rfl) (by kernel_rfl) (fun _ _ _ h => h) (Or.inl ⟨by rfl, ?_⟩) (HS7.out _ zq.out.2.2.2) ?_
                rotate_left
                · intro w hSw; (try dsimp only at hSw); go_simp; try with_reducible rfl
                try simp only [Act.put, List.getElem_toArray, List.getElem_cons_zero, List.getElem_cons_succ, List.setIfInBounds_toArray, List.set_cons_zero, List.set_cons_succ]
                refine wpAnyH_take (i := 4) (v := ?_) rfl (by kernel_rfl) (by kernel_rfl) (by kernel_rfl) (fun _ _ _ h => h) (Or.inl ⟨by rfl, ?_⟩) (HS7.out _ zq.out.2.2.2) ?_
                rotate_left
                · intro w hSw; (try dsimp only at hSw); go_simp; try with_reducible rfl
                try simp only [Act.put, List.getElem_toArray, List.getElem_cons_zero, List.getElem_cons_succ, List.setIfInBounds_toArray, List.set_cons_zero, List.set_cons_succ]
                refine wpAnyH_take (i := 5) (v := ?_) rfl (by kernel_rfl) (by kernel_rfl) (by kernel_rfl) (fun _ _ _ h => h) (Or.inl ⟨by rfl, ?_⟩) (HS7.out _ zq.out.2.2.2) ?_
                rotate_left
                · intro w hSw; (try dsimp only at hSw); go_simp; try with_reducible rfl
                try simp only [Act.put, List.getElem_toArray, List.getElem_cons_zero, List.getElem_cons_succ, List.setIfInBounds_toArray, List.set_cons_zero, List.set_cons_succ]
                refine wpAnyH_take (i := 6) (v := ?_) rfl (by kernel_rfl) (by kernel_rfl) (by kernel_rfl) (fun _ _ _ h => h) (Or.inl ⟨by rfl, ?_⟩) (HS7.out _ zq.out.2.2.2) ?_
                rotate_left
                · intro w hSw; (try dsimp only at hSw); go_simp; try with_reducible rfl
                try simp only [Act.put, List.getElem_toArray, List.getElem_cons_zero, List.getElem_cons_succ, List.setIfInBounds_toArray, List.set_cons_zero, List.set_cons_succ]
                refine wpAnyH_take (i := 7) (v := ?_) rfl (by kernel_rfl) (by kernel_rfl) (by kernel_rfl) (fun _ _ _ h => h) (Or.inl ⟨by rfl, ?_⟩) (HS7.out _ zq.out.2.2.2) ?_
                rotate_left
                · intro w hSw; (try dsimp only at hSw); go_simp; try with_reducible rfl
                try simp only [Act.put, List.getElem_toArray, List.getElem_cons_zero, List.getElem_cons_succ, List.setIfInBounds_toArray, List.set_cons_zero, List.set_cons_succ]
                refine wpAnyH_take (i := 8) (v := ?_) rfl (by kernel_rfl) (by kernel_rfl) (by kernel_rfl) (fun _ _ _ h => h) (Or.inl ⟨by rfl, ?_⟩) (HS7.out _ zq.out.2.2.2) ?_
                rotate_left
                · intro w hSw; (try dsimp only at hSw); go_simp; try with_reducible rfl
                try simp only [Act.put, List.getElem_toArray, List.getElem_cons_zero, List.getElem_cons_succ, List.setIfInBounds_toArray, List.set_cons_zero, List.set_cons_succ]
                refine wpAnyH_take (i := 9) (v := ?_) rfl (by kernel_rfl) (by kernel_rfl) (by kernel_rfl) (fun _ _ _ h => h) (Or.inl ⟨by rfl, ?_⟩) (HS7.out _ zq.out.2.2.2) ?_
                rotate_left
                · intro w hSw; (try dsimp only at hSw); go_simp; try with_reducible rfl
                try simp only [Act.put, List.getElem_toArray, List.getElem_cons_zero, List.getElem_cons_succ, List.setIfInBounds_toArray, List.set_cons_zero, List.set_cons_succ]
                refine wpAnyH_take (i := 10) (v := ?_) rfl (by kernel_rfl) (by kernel_rfl) (by kernel_rfl) (fun _ _ _ h => h) (Or.inl ⟨by rfl, ?_⟩) (HS7.out _ zq.out.2.2.2) ?_
                rotate_left
                · intro w hSw; (try dsimp only at hSw); go_simp; try with_reducible rfl
                try simp only [Act.put, List.getElem_toArray, List.getElem_cons_zero, List.getElem_cons_succ, List.setIfInBounds_toArray, List.set_cons_zero, List.set_cons_succ]
                refine wpAnyH_done (by kernel_rfl) ?_ _
                obtain ⟨t', ht'⟩ : ∃ t', t' = turn t := ⟨_, rfl⟩
                have HTu : Hid (∀ W, Calls Tryz.prog 70 #[.agg (bcells t)] W fun e w' => e = .returned (.agg (bcells t')) ∧ Below W.heap.size W w') := Lib.hid (fun W => by rw [ht']; exact r1turn_any t W)
                have HNX2 : Hid (w192m (s + t') = atN X Y k (i + 1)) := Lib.hid (by rw [ht', ← HNX.out]; rfl)
                clear ht'
                go_wp2_with (refine wpList_load_row rfl _ _ rfl _ rfl _ _ _ _ (zq.out.2.2.1) Tryz.underlying114 rfl size_bits ?_)
                refine (HTu.out _).mono ?_
                rintro e w7 ⟨rfl, hB7⟩
                have zt : Hid (RowAt w7 w.heap.size 58 (three 0) ∧ RowAt w7 (w.heap.size + 1) 114 (bcells s) ∧ RowAt w7 N 114 (bcells t) ∧ Below w.heap.size w w7) := Lib.hid (KQ.out _ _ _ _ zq.out hB7)
                have zr : Hid (RowAt (w7.setRow N (bcells t')) w.heap.size 58 (three 0) ∧ RowAt (w7.setRow N (bcells t')) (w.heap.size + 1) 114 (bcells s) ∧ RowAt (w7.setRow N (bcells t')) N 114 (bcells t') ∧ Below w.heap.size w (w7.setRow N (bcells t'))) := Lib.hid ⟨zt.out.1.setRowOther _ _ (by omega), zt.out.2.1.setRowOther _ _ (by omega), zt.out.2.2.1.setRow _, below_setRow zt.out.2.2.2 (by omega) _⟩
                clear hB7 zq zz
                have HSu : Hid (∀ W, Calls Tryz.prog 73 #[.agg (bcells s), .agg (bcells t')] W fun e w' => e = .returned (.agg (bcells (s + t'))) ∧ Below W.heap.size W w') := Lib.hid (fun W => r1sum_any s t' W)
                obtain ⟨u', hu'⟩ : ∃ u', u' = s + t' := ⟨_, rfl⟩
                rw [← hu'] at HSu HNX2
                have HWh := Lib.hid (fun W => r1whole_any u' W)
                obtain ⟨s', hs'⟩ : ∃ s', s' = w192m u' := ⟨_, rfl⟩
                have HBi : Hid (∀ W, Calls Tryz.prog 71 #[.agg (three u')] W fun e w' => e = .returned (.agg (bcells s')) ∧ Below W.heap.size W w') := Lib.hid (fun W => by
                  have h := r1bit_any s' (by rw [hs']; exact w192m_lt _) W
                  rw [hs', three_w192m] at h
                  rw [hs']; exact h)
                have HNX3 : Hid (s' = atN X Y k (i + 1)) := Lib.hid (by rw [hs']; exact HNX2.out)
                clear hu' hs' HNX2
                go_wp2_with (first | (refine wpList_store_row rfl _ _ _ rfl _ _ rfl rfl _ _ (zt.out.2.2.1) size_bits rfl (bcells_one _) ?_) | (refine wpList_load_row rfl _ _ rfl _ rfl _ _ _ _ (zr.out.2.1) Tryz.underlying114 rfl size_bits ?_) | (refine wpList_load_row rfl _ _ rfl _ rfl _ _ _ _ (zr.out.2.2.1) Tryz.underlying114 rfl size_bits ?_))
                refine (HSu.out _).mono ?_
                rintro e w9 ⟨rfl, hB9⟩
                have z9 : Hid (RowAt w9 w.heap.size 58 (three 0) ∧ RowAt w9 (w.heap.size + 1) 114 (bcells s) ∧ Below w.heap.size w w9) := Lib.hid ⟨zr.out.1.keep hB9, zr.out.2.1.keep hB9, zr.out.2.2.2.trans (hB9.mono zr.out.2.2.2.size)⟩
                clear hB9 zr
                go_wp2_with fail
                refine (HWh.out _).mono ?_
                rintro e w10 ⟨rfl, hB10⟩
                have z10 := Lib.hid (KI.out _ _ _ z9.out hB10)
                clear hB10 z9
                go_wp2_with fail
                refine (HBi.out _).mono ?_
                rintro e w11 ⟨rfl, hB11⟩
                have z11 := Lib.hid (KI.out _ _ _ z10.out hB11)
                have z12 : Hid (RowAt (w11.setRow (w.heap.size + 1) (bcells s')) w.heap.size 58 (three 0) ∧ RowAt (w11.setRow (w.heap.size + 1) (bcells s')) (w.heap.size + 1) 114 (bcells s') ∧ Below w.heap.size w (w11.setRow (w.heap.size + 1) (bcells s'))) := Lib.hid ⟨z11.out.1.setRowOther _ _ (by omega), z11.out.2.1.setRow _, below_setRow z11.out.2.2 (by omega) _⟩
                clear hB11 z10
                go_wp2_with (refine wpList_store_row rfl _ _ _ rfl _ _ rfl rfl _ _ (z11.out.2.1) size_bits rfl (bcells_one _) ?_)
                rw [HNX3.out] at z12
                go_roundw
                case rel => exact ⟨i + 1, by go_num, by omega, by rw [← HNX3.out] at z12 ⊢; exact z12⟩
                case measure => simp [intOf]; omega
              | false =>
                have htj : si = tj := by revert hσ; cases si <;> cases tj <;> simp
                subst htj
                clear hσ
                go_wp2_with fail
                have zq : Hid (RowAt (w6.drewN 1) w.heap.size 58 (three 0) ∧ RowAt (w6.drewN 1) (w.heap.size + 1) 114 (bcells s) ∧ RowAt (w6.drewN 1) N 114 (bcells t) ∧ Below w.heap.size w (w6.drewN 1)) := Lib.hid (KQ.out _ _ _ _ zz.out (below_drewN (Below.refl _ _) 1))
                change (Code.region _ _ true).wp _ _ _ _
                refine wp_region_held_drew (S := fun wz => wz.cell? ⟨bS, oS + i, none⟩ = some (.bool si) ∧ wz.cell? ⟨bT, oT + j, none⟩ = some (.bool si)) (by kernel_rfl) (HS7.out _ zq.out.2.2.2) (fun hHeld => ?_)
                refine wpAnyH_take (i := 0) (v := ?_) rfl (by kernel_rfl) (by kernel_rfl) (by kernel_rfl) (fun _ _ _ h => h) (Or.inl ⟨by rfl, ?_⟩) (HS7.out _ zq.out.2.2.2) ?_
                rotate_left
                · intro w hSw; (try dsimp only at hSw); go_simp; try with_reducible rfl
                try simp only [Act.put, List.getElem_toArray, List.getElem_cons_zero, List.getElem_cons_succ, List.setIfInBounds_toArray, List.set_cons_zero, List.set_cons_succ]
                refine wpAnyH_take (i := 1) (v := ?_) rfl (by kernel_rfl) (by kernel_rfl) (by kernel_rfl) (fun _ _ _ h => h) (Or.inl ⟨by rfl, ?_⟩) (HS7.out _ zq.out.2.2.2) ?_
                rotate_left
                · intro w hSw; (try dsimp only at hSw); go_simp; try with_reducible rfl
                try simp only [Act.put, List.getElem_toArray, List.getElem_cons_zero, List.getElem_cons_succ, List.setIfInBounds_toArray, List.set_cons_zero, List.set_cons_succ]
                refine wpAnyH_take (i := 2) (v := ?_) rfl (by kernel_rfl) (by kernel_rfl) (by kernel_rfl) (fun _ _ _ h => h) (Or.inl ⟨by rfl, ?_⟩) (HS7.out _ zq.out.2.2.2) ?_
                rotate_left
                · intro w hSw; (try dsimp only at hSw); go_simp; try with_reducible rfl
                try simp only [Act.put, List.getElem_toArray, List.getElem_cons_zero, List.getElem_cons_succ, List.setIfInBounds_toArray, List.set_cons_zero, List.set_cons_succ]
                refine wpAnyH_take (i := 3) (v := ?_) rfl (by kernel_rfl) (by kernel_rfl) (by kernel_rfl) (fun _ _ _ h => h) (Or.inl ⟨by rfl, ?_⟩) (HS7.out _ zq.out.2.2.2) ?_
                rotate_left
                · intro w hSw; (try dsimp only at hSw); go_simp; try with_reducible rfl
                try simp only [Act.put, List.getElem_toArray, List.getElem_cons_zero, List.getElem_cons_succ, List.setIfInBounds_toArray, List.set_cons_zero, List.set_cons_succ]
                refine wpAnyH_take (i := 4) (v := ?_) rfl (by kernel_rfl) (by kernel_rfl) (by kernel_rfl) (fun _ _ _ h => h) (Or.inl ⟨by rfl, ?_⟩) (HS7.out _ zq.out.2.2.2) ?_
                rotate_left
                · intro w hSw; (try dsimp only at hSw); go_simp; try with_reducible rfl
                try simp only [Act.put, List.getElem_toArray, List.getElem_cons_zero, List.getElem_cons_succ, List.setIfInBounds_toArray, List.set_cons_zero, List.set_cons_succ]
                refine wpAnyH_take (i := 5) (v := ?_) rfl (by kernel_rfl) (by kernel_rfl) (by kernel_rfl) (fun _ _ _ h => h) (Or.inl ⟨by rfl, ?_⟩) (HS7.out _ zq.out.2.2.2) ?_
                rotate_left
                · intro w hSw; (try dsimp only at hSw); go_simp; try with_reducible rfl
                try simp only [Act.put, List.getElem_toArray, List.getElem_cons_zero, List.getElem_cons_succ, List.setIfInBounds_toArray, List.set_cons_zero, List.set_cons_succ]
                refine wpAnyH_take (i := 6) (v := ?_) rfl (by kernel_rfl) (by kernel_rfl) (by kernel_rfl) (fun _ _ _ h => h) (Or.inl ⟨by rfl, ?_⟩) (HS7.out _ zq.out.2.2.2) ?_
                rotate_left
                · intro w hSw; (try dsimp only at hSw); go_simp; try with_reducible rfl
                try simp only [Act.put, List.getElem_toArray, List.getElem_cons_zero, List.getElem_cons_succ, List.setIfInBounds_toArray, List.set_cons_zero, List.set_cons_succ]
                refine wpAnyH_take (i := 7) (v := ?_) rfl (by kernel_rfl) (by kernel_rfl) (by kernel_rfl) (fun _ _ _ h => h) (Or.inl ⟨by rfl, ?_⟩) (HS7.out _ zq.out.2.2.2) ?_
                rotate_left
                · intro w hSw; (try dsimp only at hSw); go_simp; try with_reducible rfl
                try simp only [Act.put, List.getElem_toArray, List.getElem_cons_zero, List.getElem_cons_succ, List.setIfInBounds_toArray, List.set_cons_zero, List.set_cons_succ]
                refine wpAnyH_take (i := 8) (v := ?_) rfl (by kernel_rfl) (by kernel_rfl) (by kernel_rfl) (fun _ _ _ h => h) (Or.inl ⟨by rfl, ?_⟩) (HS7.out _ zq.out.2.2.2) ?_
                rotate_left
                · intro w hSw; (try dsimp only at hSw); go_simp; try with_reducible rfl
                try simp only [Act.put, List.getElem_toArray, List.getElem_cons_zero, List.getElem_cons_succ, List.setIfInBounds_toArray, List.set_cons_zero, List.set_cons_succ]
                refine wpAnyH_take (i := 9) (v := ?_) rfl (by kernel_rfl) (by kernel_rfl) (by kernel_rfl) (fun _ _ _ h => h) (Or.inl ⟨by rfl, ?_⟩) (HS7.out _ zq.out.2.2.2) ?_
                rotate_left
                · intro w hSw; (try dsimp only at hSw); go_simp; try with_reducible rfl
                try simp only [Act.put, List.getElem_toArray, List.getElem_cons_zero, List.getElem_cons_succ, List.setIfInBounds_toArray, List.set_cons_zero, List.set_cons_succ]
                refine wpAnyH_take (i := 10) (v := ?_) rfl (by kernel_rfl) (by kernel_rfl) (by kernel_rfl) (fun _ _ _ h => h) (Or.inl ⟨by rfl, ?_⟩) (HS7.out _ zq.out.2.2.2) ?_
                rotate_left
                · intro w hSw; (try dsimp only at hSw); go_simp; try with_reducible rfl
                try simp only [Act.put, List.getElem_toArray, List.getElem_cons_zero, List.getElem_cons_succ, List.setIfInBounds_toArray, List.set_cons_zero, List.set_cons_succ]
                refine wpAnyH_done (by kernel_rfl) ?_ _
                have HNX2 : Hid (w192m (s + t) = atN X Y k (i + 1)) := Lib.hid (by rw [← HNX.out]; rfl)
                have zr := zq
                clear zq zz
                have HSu : Hid (∀ W, Calls Tryz.prog 73 #[.agg (bcells s), .agg (bcells t)] W fun e w' => e = .returned (.agg (bcells (s + t))) ∧ Below W.heap.size W w') := Lib.hid (fun W => r1sum_any s t W)
                obtain ⟨u', hu'⟩ : ∃ u', u' = s + t := ⟨_, rfl⟩
                rw [← hu'] at HSu HNX2
                have HWh := Lib.hid (fun W => r1whole_any u' W)
                obtain ⟨s', hs'⟩ : ∃ s', s' = w192m u' := ⟨_, rfl⟩
                have HBi : Hid (∀ W, Calls Tryz.prog 71 #[.agg (three u')] W fun e w' => e = .returned (.agg (bcells s')) ∧ Below W.heap.size W w') := Lib.hid (fun W => by
                  have h := r1bit_any s' (by rw [hs']; exact w192m_lt _) W
                  rw [hs', three_w192m] at h
                  rw [hs']; exact h)
                have HNX3 : Hid (s' = atN X Y k (i + 1)) := Lib.hid (by rw [hs']; exact HNX2.out)
                clear hu' hs' HNX2
                go_wp2_with (first | (refine wpList_load_row rfl _ _ rfl _ rfl _ _ _ _ (zr.out.2.1) Tryz.underlying114 rfl size_bits ?_) | (refine wpList_load_row rfl _ _ rfl _ rfl _ _ _ _ (zr.out.2.2.1) Tryz.underlying114 rfl size_bits ?_))
                refine (HSu.out _).mono ?_
                rintro e w9 ⟨rfl, hB9⟩
                have z9 : Hid (RowAt w9 w.heap.size 58 (three 0) ∧ RowAt w9 (w.heap.size + 1) 114 (bcells s) ∧ Below w.heap.size w w9) := Lib.hid ⟨zr.out.1.keep hB9, zr.out.2.1.keep hB9, zr.out.2.2.2.trans (hB9.mono zr.out.2.2.2.size)⟩
                clear hB9 zr
                go_wp2_with fail
                refine (HWh.out _).mono ?_
                rintro e w10 ⟨rfl, hB10⟩
                have z10 := Lib.hid (KI.out _ _ _ z9.out hB10)
                clear hB10 z9
                go_wp2_with fail
                refine (HBi.out _).mono ?_
                rintro e w11 ⟨rfl, hB11⟩
                have z11 := Lib.hid (KI.out _ _ _ z10.out hB11)
                have z12 : Hid (RowAt (w11.setRow (w.heap.size + 1) (bcells s')) w.heap.size 58 (three 0) ∧ RowAt (w11.setRow (w.heap.size + 1) (bcells s')) (w.heap.size + 1) 114 (bcells s') ∧ Below w.heap.size w (w11.setRow (w.heap.size + 1) (bcells s'))) := Lib.hid ⟨z11.out.1.setRowOther _ _ (by omega), z11.out.2.1.setRow _, below_setRow z11.out.2.2 (by omega) _⟩
                clear hB11 z10
                go_wp2_with (refine wpList_store_row rfl _ _ _ rfl _ _ rfl rfl _ _ (z11.out.2.1) size_bits rfl (bcells_one _) ?_)
                rw [HNX3.out] at z12
                go_roundw
                case rel => exact ⟨i + 1, by go_num, by omega, by rw [← HNX3.out] at z12 ⊢; exact z12⟩
                case measure => simp [intOf]; omega
            · refine AllReadyH.cons rfl (fun K hK => ?_) AllReadyH.nil
              try simp only [List.getElem_toArray, List.getElem_cons_zero, List.getElem_cons_succ]
              rw [if_pos (by rfl)]
              go_wp2_with fail
              have n9 := Lib.hid (RowAt.new y1 114 (bcells 0))
              have l9 : w.heap.size + 1 < (y1).heap.size := z1.out.2.1.lt
              have z9 : Hid (RowAt ((y1).alloc (.cells (bcells 0) 114)) w.heap.size 58 (three 0) ∧ RowAt ((y1).alloc (.cells (bcells 0) 114)) (w.heap.size + 1) 114 (bcells s) ∧ Below w.heap.size w ((y1).alloc (.cells (bcells 0) 114))) := Lib.hid ⟨z1.out.1.alloc _, z1.out.2.1.alloc _, z1.out.2.2.alloc z1.out.2.2.size _⟩
              refine hK.out _ _ ((HS6.out _ z9.out.2.2)) (fun _ => ?_)
              clear hK K
              try simp only [Act.put, List.getElem_toArray, List.getElem_cons_zero, List.getElem_cons_succ, List.setIfInBounds_toArray, List.set_cons_zero, List.set_cons_succ]
              refine wpAnyH_ready (rs := [8]) (by kernel_rfl) (by simp) ?_
              refine AllReadyH.cons rfl (fun K hK => ?_) AllReadyH.nil
              try simp only [List.getElem_toArray, List.getElem_cons_zero, List.getElem_cons_succ]
              rw [if_pos (by rfl)]
              go_wp2_with (go_at_call 68; refine (HPr.out _).mono ?_; rintro e y8 ⟨rfl, hY⟩)
              have z8 := Lib.hid (KI.out _ _ _ z9.out hY)
              have n8 := Lib.hid (n9.out.keep hY)
              have ln8 := z8.out.2.2.size
              clear hY
              refine hK.out _ _ ((HS6.out _ z8.out.2.2)) (fun _ => ?_)
              clear hK K
              try simp only [Act.put, List.getElem_toArray, List.getElem_cons_zero, List.getElem_cons_succ, List.setIfInBounds_toArray, List.set_cons_zero, List.set_cons_succ]
              refine wpAnyH_ready (rs := [10]) (by kernel_rfl) (by simp) ?_
              refine AllReadyH.cons rfl (fun K hK => ?_) AllReadyH.nil
              try simp only [List.getElem_toArray, List.getElem_cons_zero, List.getElem_cons_succ]
              rw [if_pos (by rfl)]
              refine wp_store_row _ _ _ rfl _ _ rfl rfl _ _ (n8.out) size_bits rfl (bcells_one _) ?_
              have zz : Hid (RowAt ((y8).setRow y1.heap.size (bcells t)) w.heap.size 58 (three 0) ∧ RowAt ((y8).setRow y1.heap.size (bcells t)) (w.heap.size + 1) 114 (bcells s) ∧ RowAt ((y8).setRow y1.heap.size (bcells t)) y1.heap.size 114 (bcells t) ∧ Below w.heap.size w ((y8).setRow y1.heap.size (bcells t))) := Lib.hid ⟨z8.out.1.setRowOther _ _ (by have := z8.out.2.1.lt; have := n8.out.lt; omega), z8.out.2.1.setRowOther _ _ (by omega), n8.out.setRow _, below_setRow z8.out.2.2 (by omega) _⟩
              refine hK.out _ _ ((HS6.out _ zz.out.2.2.2)) (fun _ => ?_)
              clear hK K
              try simp only [Act.put, List.getElem_toArray, List.getElem_cons_zero, List.getElem_cons_succ, List.setIfInBounds_toArray, List.set_cons_zero, List.set_cons_succ]
              refine wpAnyH_done (by kernel_rfl) ?_ _
              obtain ⟨N, hN⟩ : ∃ N, N = y1.heap.size := ⟨_, rfl⟩
              have hN1 : w.heap.size + 1 < N := by rw [hN]; omega
              rw [← hN] at zz ⊢
              generalize (y8).setRow N (bcells t) = w6 at *
              clear hN
              cases σ with
              | true =>
                have htj : tj = (!si) := by revert hσ; cases si <;> cases tj <;> simp
                subst htj
                clear hσ
                go_wp2_with fail
                have zq : Hid (RowAt (w6.drewN 1) w.heap.size 58 (three 0) ∧ RowAt (w6.drewN 1) (w.heap.size + 1) 114 (bcells s) ∧ RowAt (w6.drewN 1) N 114 (bcells t) ∧ Below w.heap.size w (w6.drewN 1)) := Lib.hid (KQ.out _ _ _ _ zz.out (below_drewN (Below.refl _ _) 1))
                change (Code.region _ _ true).wp _ _ _ _
                refine wp_region_held_drew (S := fun wz => wz.cell? ⟨bS, oS + i, none⟩ = some (.bool si) ∧ wz.cell? ⟨bT, oT + j, none⟩ = some (.bool (!si))) (by kernel_rfl) (HS7.out _ zq.out.2.2.2) (fun hHeld => ?_)
                refine wpAnyH_take (i := 0) (v := ?_) rfl (by kernel_rfl) (by kernel_rfl) (by kernel_rfl) (fun _ _ _ h => h) (Or.inl ⟨by rfl, ?_⟩) (HS7.out _ zq.out.2.2.2) ?_
                rotate_left
                · intro w hSw; (try dsimp only at hSw); go_simp; try with_reducible rfl
                try simp only [Act.put, List.getElem_toArray, List.getElem_cons_zero, List.getElem_cons_succ, List.setIfInBounds_toArray, List.set_cons_zero, List.set_cons_succ]
                refine wpAnyH_take (i := 1) (v := ?_) rfl (by kernel_rfl) (by kernel_rfl) (by kernel_rfl) (fun _ _ _ h => h) (Or.inl ⟨by rfl, ?_⟩) (HS7.out _ zq.out.2.2.2) ?_
                rotate_left
                · intro w hSw; (try dsimp only at hSw); go_simp; try with_reducible rfl
                try simp only [Act.put, List.getElem_toArray, List.getElem_cons_zero, List.getElem_cons_succ, List.setIfInBounds_toArray, List.set_cons_zero, List.set_cons_succ]
                refine wpAnyH_take (i := 2) (v := ?_) rfl (by kernel_rfl) (by kernel_rfl) (by kernel_rfl) (fun _ _ _ h => h) (Or.inl ⟨by rfl, ?_⟩) (HS7.out _ zq.out.2.2.2) ?_
                rotate_left
                · intro w hSw; (try dsimp only at hSw); go_simp; try with_reducible rfl
                try simp only [Act.put, List.getElem_toArray, List.getElem_cons_zero, List.getElem_cons_succ, List.setIfInBounds_toArray, List.set_cons_zero, List.set_cons_succ]
                refine wpAnyH_take (i := 3) (v := ?_) rfl (by kernel_rfl) (by kernel_rfl) (by kernel_rfl) (fun _ _ _ h => h) (Or.inl ⟨by rfl, ?_⟩) (HS7.out _ zq.out.2.2.2) ?_
                rotate_left
                · intro w hSw; (try dsimp only at hSw); go_simp; try with_reducible rfl
                try simp only [Act.put, List.getElem_toArray, List.getElem_cons_zero, List.getElem_cons_succ, List.setIfInBounds_toArray, List.set_cons_zero, List.set_cons_succ]
                refine wpAnyH_take (i := 4) (v := ?_) rfl (by kernel_rfl) (by kernel_rfl) (by kernel_rfl) (fun _ _ _ h => h) (Or.inl ⟨by rfl, ?_⟩) (HS7.out _ zq.out.2.2.2) ?_
                rotate_left
                · intro w hSw; (try dsimp only at hSw); go_simp; try with_reducible rfl
                try simp only [Act.put, List.getElem_toArray, List.getElem_cons_zero, List.getElem_cons_succ, List.setIfInBounds_toArray, List.set_cons_zero, List.set_cons_succ]
                refine wpAnyH_take (i := 5) (v := ?_) rfl (by kernel_rfl) (by kernel_rfl) (by kernel_rfl) (fun _ _ _ h => h) (Or.inl ⟨by rfl, ?_⟩) (HS7.out _ zq.out.2.2.2) ?_
                rotate_left
                · intro w hSw; (try dsimp only at hSw); go_simp; try with_reducible rfl
                try simp only [Act.put, List.getElem_toArray, List.getElem_cons_zero, List.getElem_cons_succ, List.setIfInBounds_toArray, List.set_cons_zero, List.set_cons_succ]
                refine wpAnyH_take (i := 6) (v := ?_) rfl (by kernel_rfl) (by kernel_rfl) (by kernel_rfl) (fun _ _ _ h => h) (Or.inl ⟨by rfl, ?_⟩) (HS7.out _ zq.out.2.2.2) ?_
                rotate_left
                · intro w hSw; (try dsimp only at hSw); go_simp; try with_reducible rfl
                try simp only [Act.put, List.getElem_toArray, List.getElem_cons_zero, List.getElem_cons_succ, List.setIfInBounds_toArray, List.set_cons_zero, List.set_cons_succ]
                refine wpAnyH_take (i := 7) (v := ?_) rfl (by kernel_rfl) (by kernel_rfl) (by kernel_rfl) (fun _ _ _ h => h) (Or.inl ⟨by rfl, ?_⟩) (HS7.out _ zq.out.2.2.2) ?_
                rotate_left
                · intro w hSw; (try dsimp only at hSw); go_simp; try with_reducible rfl
                try simp only [Act.put, List.getElem_toArray, List.getElem_cons_zero, List.getElem_cons_succ, List.setIfInBounds_toArray, List.set_cons_zero, List.set_cons_succ]
                refine wpAnyH_take (i := 8) (v := ?_) rfl (by kernel_rfl) (by kernel_rfl) (by kernel_rfl) (fun _ _ _ h => h) (Or.inl ⟨by rfl, ?_⟩) (HS7.out _ zq.out.2.2.2) ?_
                rotate_left
                · intro w hSw; (try dsimp only at hSw); go_simp; try with_reducible rfl
                try simp only [Act.put, List.getElem_toArray, List.getElem_cons_zero, List.getElem_cons_succ, List.setIfInBounds_toArray, List.set_cons_zero, List.set_cons_succ]
                refine wpAnyH_take (i := 9) (v := ?_) rfl (by kernel_rfl) (by kernel_rfl) (by kernel_rfl) (fun _ _ _ h => h) (Or.inl ⟨by rfl, ?_⟩) (HS7.out _ zq.out.2.2.2) ?_
                rotate_left
                · intro w hSw; (try dsimp only at hSw); go_simp; try with_reducible rfl
                try simp only [Act.put, List.getElem_toArray, List.getElem_cons_zero, List.getElem_cons_succ, List.setIfInBounds_toArray, List.set_cons_zero, List.set_cons_succ]
                refine wpAnyH_take (i := 10) (v := ?_) rfl (by kernel_rfl) (by kernel_rfl) (by kernel_rfl) (fun _ _ _ h => h) (Or.inl ⟨by rfl, ?_⟩) (HS7.out _ zq.out.2.2.2) ?_
                rotate_left
                · intro w hSw; (try dsimp only at hSw); go_simp; try with_reducible rfl
                try simp only [Act.put, List.getElem_toArray, List.getElem_cons_zero, List.getElem_cons_succ, List.setIfInBounds_toArray, List.set_cons_zero, List.set_cons_succ]
                refine wpAnyH_done (by kernel_rfl) ?_ _
                obtain ⟨t', ht'⟩ : ∃ t', t' = turn t := ⟨_, rfl⟩
                have HTu : Hid (∀ W, Calls Tryz.prog 70 #[.agg (bcells t)] W fun e w' => e = .returned (.agg (bcells t')) ∧ Below W.heap.size W w') := Lib.hid (fun W => by rw [ht']; exact r1turn_any t W)
                have HNX2 : Hid (w192m (s + t') = atN X Y k (i + 1)) := Lib.hid (by rw [ht', ← HNX.out]; rfl)
                clear ht'
                go_wp2_with (refine wpList_load_row rfl _ _ rfl _ rfl _ _ _ _ (zq.out.2.2.1) Tryz.underlying114 rfl size_bits ?_)
                refine (HTu.out _).mono ?_
                rintro e w7 ⟨rfl, hB7⟩
                have zt : Hid (RowAt w7 w.heap.size 58 (three 0) ∧ RowAt w7 (w.heap.size + 1) 114 (bcells s) ∧ RowAt w7 N 114 (bcells t) ∧ Below w.heap.size w w7) := Lib.hid (KQ.out _ _ _ _ zq.out hB7)
                have zr : Hid (RowAt (w7.setRow N (bcells t')) w.heap.size 58 (three 0) ∧ RowAt (w7.setRow N (bcells t')) (w.heap.size + 1) 114 (bcells s) ∧ RowAt (w7.setRow N (bcells t')) N 114 (bcells t') ∧ Below w.heap.size w (w7.setRow N (bcells t'))) := Lib.hid ⟨zt.out.1.setRowOther _ _ (by omega), zt.out.2.1.setRowOther _ _ (by omega), zt.out.2.2.1.setRow _, below_setRow zt.out.2.2.2 (by omega) _⟩
                clear hB7 zq zz
                have HSu : Hid (∀ W, Calls Tryz.prog 73 #[.agg (bcells s), .agg (bcells t')] W fun e w' => e = .returned (.agg (bcells (s + t'))) ∧ Below W.heap.size W w') := Lib.hid (fun W => r1sum_any s t' W)
                obtain ⟨u', hu'⟩ : ∃ u', u' = s + t' := ⟨_, rfl⟩
                rw [← hu'] at HSu HNX2
                have HWh := Lib.hid (fun W => r1whole_any u' W)
                obtain ⟨s', hs'⟩ : ∃ s', s' = w192m u' := ⟨_, rfl⟩
                have HBi : Hid (∀ W, Calls Tryz.prog 71 #[.agg (three u')] W fun e w' => e = .returned (.agg (bcells s')) ∧ Below W.heap.size W w') := Lib.hid (fun W => by
                  have h := r1bit_any s' (by rw [hs']; exact w192m_lt _) W
                  rw [hs', three_w192m] at h
                  rw [hs']; exact h)
                have HNX3 : Hid (s' = atN X Y k (i + 1)) := Lib.hid (by rw [hs']; exact HNX2.out)
                clear hu' hs' HNX2
                go_wp2_with (first | (refine wpList_store_row rfl _ _ _ rfl _ _ rfl rfl _ _ (zt.out.2.2.1) size_bits rfl (bcells_one _) ?_) | (refine wpList_load_row rfl _ _ rfl _ rfl _ _ _ _ (zr.out.2.1) Tryz.underlying114 rfl size_bits ?_) | (refine wpList_load_row rfl _ _ rfl _ rfl _ _ _ _ (zr.out.2.2.1) Tryz.underlying114 rfl size_bits ?_))
                refine (HSu.out _).mono ?_
                rintro e w9 ⟨rfl, hB9⟩
                have z9 : Hid (RowAt w9 w.heap.size 58 (three 0) ∧ RowAt w9 (w.heap.size + 1) 114 (bcells s) ∧ Below w.heap.size w w9) := Lib.hid ⟨zr.out.1.keep hB9, zr.out.2.1.keep hB9, zr.out.2.2.2.trans (hB9.mono zr.out.2.2.2.size)⟩
                clear hB9 zr
                go_wp2_with fail
                refine (HWh.out _).mono ?_
                rintro e w10 ⟨rfl, hB10⟩
                have z10 := Lib.hid (KI.out _ _ _ z9.out hB10)
                clear hB10 z9
                go_wp2_with fail
                refine (HBi.out _).mono ?_
                rintro e w11 ⟨rfl, hB11⟩
                have z11 := Lib.hid (KI.out _ _ _ z10.out hB11)
                have z12 : Hid (RowAt (w11.setRow (w.heap.size + 1) (bcells s')) w.heap.size 58 (three 0) ∧ RowAt (w11.setRow (w.heap.size + 1) (bcells s')) (w.heap.size + 1) 114 (bcells s') ∧ Below w.heap.size w (w11.setRow (w.heap.size + 1) (bcells s'))) := Lib.hid ⟨z11.out.1.setRowOther _ _ (by omega), z11.out.2.1.setRow _, below_setRow z11.out.2.2 (by omega) _⟩
                clear hB11 z10
                go_wp2_with (refine wpList_store_row rfl _ _ _ rfl _ _ rfl rfl _ _ (z11.out.2.1) size_bits rfl (bcells_one _) ?_)
                rw [HNX3.out] at z12
                go_roundw
                case rel => exact ⟨i + 1, by go_num, by omega, by rw [← HNX3.out] at z12 ⊢; exact z12⟩
                case measure => simp [intOf]; omega
              | false =>
                have htj : si = tj := by revert hσ; cases si <;> cases tj <;> simp
                subst htj
                clear hσ
                go_wp2_with fail
                have zq : Hid (RowAt (w6.drewN 1) w.heap.size 58 (three 0) ∧ RowAt (w6.drewN 1) (w.heap.size + 1) 114 (bcells s) ∧ RowAt (w6.drewN 1) N 114 (bcells t) ∧ Below w.heap.size w (w6.drewN 1)) := Lib.hid (KQ.out _ _ _ _ zz.out (below_drewN (Below.refl _ _) 1))
                change (Code.region _ _ true).wp _ _ _ _
                refine wp_region_held_drew (S := fun wz => wz.cell? ⟨bS, oS + i, none⟩ = some (.bool si) ∧ wz.cell? ⟨bT, oT + j, none⟩ = some (.bool si)) (by kernel_rfl) (HS7.out _ zq.out.2.2.2) (fun hHeld => ?_)
                refine wpAnyH_take (i := 0) (v := ?_) rfl (by kernel_rfl) (by kernel_rfl) (by kernel_rfl) (fun _ _ _ h => h) (Or.inl ⟨by rfl, ?_⟩) (HS7.out _ zq.out.2.2.2) ?_
                rotate_left
                · intro w hSw; (try dsimp only at hSw); go_simp; try with_reducible rfl
                try simp only [Act.put, List.getElem_toArray, List.getElem_cons_zero, List.getElem_cons_succ, List.setIfInBounds_toArray, List.set_cons_zero, List.set_cons_succ]
                refine wpAnyH_take (i := 1) (v := ?_) rfl (by kernel_rfl) (by kernel_rfl) (by kernel_rfl) (fun _ _ _ h => h) (Or.inl ⟨by rfl, ?_⟩) (HS7.out _ zq.out.2.2.2) ?_
                rotate_left
                · intro w hSw; (try dsimp only at hSw); go_simp; try with_reducible rfl
                try simp only [Act.put, List.getElem_toArray, List.getElem_cons_zero, List.getElem_cons_succ, List.setIfInBounds_toArray, List.set_cons_zero, List.set_cons_succ]
                refine wpAnyH_take (i := 2) (v := ?_) rfl (by kernel_rfl) (by kernel_rfl) (by kernel_rfl) (fun _ _ _ h => h) (Or.inl ⟨by rfl, ?_⟩) (HS7.out _ zq.out.2.2.2) ?_
                rotate_left
                · intro w hSw; (try dsimp only at hSw); go_simp; try with_reducible rfl
                try simp only [Act.put, List.getElem_toArray, List.getElem_cons_zero, List.getElem_cons_succ, List.setIfInBounds_toArray, List.set_cons_zero, List.set_cons_succ]
                refine wpAnyH_take (i := 3) (v := ?_) rfl (by kernel_rfl) (by kernel_rfl) (by kernel_rfl) (fun _ _ _ h => h) (Or.inl ⟨by rfl, ?_⟩) (HS7.out _ zq.out.2.2.2) ?_
                rotate_left
                · intro w hSw; (try dsimp only at hSw); go_simp; try with_reducible rfl
                try simp only [Act.put, List.getElem_toArray, List.getElem_cons_zero, List.getElem_cons_succ, List.setIfInBounds_toArray, List.set_cons_zero, List.set_cons_succ]
                refine wpAnyH_take (i := 4) (v := ?_) rfl (by kernel_rfl) (by kernel_rfl) (by kernel_rfl) (fun _ _ _ h => h) (Or.inl ⟨by rfl, ?_⟩) (HS7.out _ zq.out.2.2.2) ?_
                rotate_left
                · intro w hSw; (try dsimp only at hSw); go_simp; try with_reducible rfl
                try simp only [Act.put, List.getElem_toArray, List.getElem_cons_zero, List.getElem_cons_succ, List.setIfInBounds_toArray, List.set_cons_zero, List.set_cons_succ]
                refine wpAnyH_take (i := 5) (v := ?_) rfl (by kernel_rfl) (by kernel_rfl) (by kernel_rfl) (fun _ _ _ h => h) (Or.inl ⟨by rfl, ?_⟩) (HS7.out _ zq.out.2.2.2) ?_
                rotate_left
                · intro w hSw; (try dsimp only at hSw); go_simp; try with_reducible rfl
                try simp only [Act.put, List.getElem_toArray, List.getElem_cons_zero, List.getElem_cons_succ, List.setIfInBounds_toArray, List.set_cons_zero, List.set_cons_succ]
                refine wpAnyH_take (i := 6) (v := ?_) rfl (by kernel_rfl) (by kernel_rfl) (by kernel_rfl) (fun _ _ _ h => h) (Or.inl ⟨by rfl, ?_⟩) (HS7.out _ zq.out.2.2.2) ?_
                rotate_left
                · intro w hSw; (try dsimp only at hSw); go_simp; try with_reducible rfl
                try simp only [Act.put, List.getElem_toArray, List.getElem_cons_zero, List.getElem_cons_succ, List.setIfInBounds_toArray, List.set_cons_zero, List.set_cons_succ]
                refine wpAnyH_take (i := 7) (v := ?_) rfl (by kernel_rfl) (by kernel_rfl) (by kernel_rfl) (fun _ _ _ h => h) (Or.inl ⟨by rfl, ?_⟩) (HS7.out _ zq.out.2.2.2) ?_
                rotate_left
                · intro w hSw; (try dsimp only at hSw); go_simp; try with_reducible rfl
                try simp only [Act.put, List.getElem_toArray, List.getElem_cons_zero, List.getElem_cons_succ, List.setIfInBounds_toArray, List.set_cons_zero, List.set_cons_succ]
                refine wpAnyH_take (i := 8) (v := ?_) rfl (by kernel_rfl) (by kernel_rfl) (by kernel_rfl) (fun _ _ _ h => h) (Or.inl ⟨by rfl, ?_⟩) (HS7.out _ zq.out.2.2.2) ?_
                rotate_left
                · intro w hSw; (try dsimp only at hSw); go_simp; try with_reducible rfl
                try simp only [Act.put, List.getElem_toArray, List.getElem_cons_zero, List.getElem_cons_succ, List.setIfInBounds_toArray, List.set_cons_zero, List.set_cons_succ]
                refine wpAnyH_take (i := 9) (v := ?_) rfl (by kernel_rfl) (by kernel_rfl) (by kernel_rfl) (fun _ _ _ h => h) (Or.inl ⟨by rfl, ?_⟩) (HS7.out _ zq.out.2.2.2) ?_
                rotate_left
                · intro w hSw; (try dsimp only at hSw); go_simp; try with_reducible rfl
                try simp only [Act.put, List.getElem_toArray, List.getElem_cons_zero, List.getElem_cons_succ, List.setIfInBounds_toArray, List.set_cons_zero, List.set_cons_succ]
                refine wpAnyH_take (i := 10) (v := ?_) rfl (by kernel_rfl) (by kernel_rfl) (by kernel_rfl) (fun _ _ _ h => h) (Or.inl ⟨by rfl, ?_⟩) (HS7.out _ zq.out.2.2.2) ?_
                rotate_left
                · intro w hSw; (try dsimp only at hSw); go_simp; try with_reducible rfl
                try simp only [Act.put, List.getElem_toArray, List.getElem_cons_zero, List.getElem_cons_succ, List.setIfInBounds_toArray, List.set_cons_zero, List.set_cons_succ]
                refine wpAnyH_done (by kernel_rfl) ?_ _
                have HNX2 : Hid (w192m (s + t) = atN X Y k (i + 1)) := Lib.hid (by rw [← HNX.out]; rfl)
                have zr := zq
                clear zq zz
                have HSu : Hid (∀ W, Calls Tryz.prog 73 #[.agg (bcells s), .agg (bcells t)] W fun e w' => e = .returned (.agg (bcells (s + t))) ∧ Below W.heap.size W w') := Lib.hid (fun W => r1sum_any s t W)
                obtain ⟨u', hu'⟩ : ∃ u', u' = s + t := ⟨_, rfl⟩
                rw [← hu'] at HSu HNX2
                have HWh := Lib.hid (fun W => r1whole_any u' W)
                obtain ⟨s', hs'⟩ : ∃ s', s' = w192m u' := ⟨_, rfl⟩
                have HBi : Hid (∀ W, Calls Tryz.prog 71 #[.agg (three u')] W fun e w' => e = .returned (.agg (bcells s')) ∧ Below W.heap.size W w') := Lib.hid (fun W => by
                  have h := r1bit_any s' (by rw [hs']; exact w192m_lt _) W
                  rw [hs', three_w192m] at h
                  rw [hs']; exact h)
                have HNX3 : Hid (s' = atN X Y k (i + 1)) := Lib.hid (by rw [hs']; exact HNX2.out)
                clear hu' hs' HNX2
                go_wp2_with (first | (refine wpList_load_row rfl _ _ rfl _ rfl _ _ _ _ (zr.out.2.1) Tryz.underlying114 rfl size_bits ?_) | (refine wpList_load_row rfl _ _ rfl _ rfl _ _ _ _ (zr.out.2.2.1) Tryz.underlying114 rfl size_bits ?_))
                refine (HSu.out _).mono ?_
                rintro e w9 ⟨rfl, hB9⟩
                have z9 : Hid (RowAt w9 w.heap.size 58 (three 0) ∧ RowAt w9 (w.heap.size + 1) 114 (bcells s) ∧ Below w.heap.size w w9) := Lib.hid ⟨zr.out.1.keep hB9, zr.out.2.1.keep hB9, zr.out.2.2.2.trans (hB9.mono zr.out.2.2.2.size)⟩
                clear hB9 zr
                go_wp2_with fail
                refine (HWh.out _).mono ?_
                rintro e w10 ⟨rfl, hB10⟩
                have z10 := Lib.hid (KI.out _ _ _ z9.out hB10)
                clear hB10 z9
                go_wp2_with fail
                refine (HBi.out _).mono ?_
                rintro e w11 ⟨rfl, hB11⟩
                have z11 := Lib.hid (KI.out _ _ _ z10.out hB11)
                have z12 : Hid (RowAt (w11.setRow (w.heap.size + 1) (bcells s')) w.heap.size 58 (three 0) ∧ RowAt (w11.setRow (w.heap.size + 1) (bcells s')) (w.heap.size + 1) 114 (bcells s') ∧ Below w.heap.size w (w11.setRow (w.heap.size + 1) (bcells s'))) := Lib.hid ⟨z11.out.1.setRowOther _ _ (by omega), z11.out.2.1.setRow _, below_setRow z11.out.2.2 (by omega) _⟩
                clear hB11 z10
                go_wp2_with (refine wpList_store_row rfl _ _ _ rfl _ _ rfl rfl _ _ (z11.out.2.1) size_bits rfl (bcells_one _) ?_)
                rw [HNX3.out] at z12
                go_roundw
                case rel => exact ⟨i + 1, by go_num, by omega, by rw [← HNX3.out] at z12 ⊢; exact z12⟩
                case measure => simp [intOf]; omega
          · refine AllReadyH.cons rfl (fun K hK => ?_) AllReadyH.nil
            try simp only [List.getElem_toArray, List.getElem_cons_zero, List.getElem_cons_succ]
            rw [if_pos (by rfl)]
            go_wp2_with fail
            have n9 := Lib.hid (RowAt.new (wr.drewN 1) 114 (bcells 0))
            have l9 : w.heap.size + 1 < ((wr.drewN 1)).heap.size := z0.out.2.1.lt
            have z9 : Hid (RowAt (((wr.drewN 1)).alloc (.cells (bcells 0) 114)) w.heap.size 58 (three 0) ∧ RowAt (((wr.drewN 1)).alloc (.cells (bcells 0) 114)) (w.heap.size + 1) 114 (bcells s) ∧ Below w.heap.size w (((wr.drewN 1)).alloc (.cells (bcells 0) 114))) := Lib.hid ⟨z0.out.1.alloc _, z0.out.2.1.alloc _, z0.out.2.2.alloc z0.out.2.2.size _⟩
            have ln9 : (wr.drewN 1).heap.size = wr.heap.size := rfl
            refine hK.out _ _ ((HS6.out _ z9.out.2.2)) (fun _ => ?_)
            clear hK K
            try simp only [Act.put, List.getElem_toArray, List.getElem_cons_zero, List.getElem_cons_succ, List.setIfInBounds_toArray, List.set_cons_zero, List.set_cons_succ]
            refine wpAnyH_ready (rs := [1]) (by kernel_rfl) (by simp) ?_
            refine AllReadyH.cons rfl (fun K hK => ?_) AllReadyH.nil
            try simp only [List.getElem_toArray, List.getElem_cons_zero, List.getElem_cons_succ]
            rw [if_pos (by rfl)]
            go_wp2_with (go_at_call 69; refine (HNu.out _).mono ?_; rintro e y1 ⟨rfl, hY⟩)
            have z1 := Lib.hid (KI.out _ _ _ z9.out hY)
            have n1 := Lib.hid (n9.out.keep hY)
            clear hY
            refine hK.out _ _ ((HS6.out _ z1.out.2.2)) (fun _ => ?_)
            clear hK K
            try simp only [Act.put, List.getElem_toArray, List.getElem_cons_zero, List.getElem_cons_succ, List.setIfInBounds_toArray, List.set_cons_zero, List.set_cons_succ]
            refine wpAnyH_ready (rs := [8]) (by kernel_rfl) (by simp) ?_
            refine AllReadyH.cons rfl (fun K hK => ?_) AllReadyH.nil
            try simp only [List.getElem_toArray, List.getElem_cons_zero, List.getElem_cons_succ]
            rw [if_pos (by rfl)]
            go_wp2_with (go_at_call 68; refine (HPr.out _).mono ?_; rintro e y8 ⟨rfl, hY⟩)
            have z8 := Lib.hid (KI.out _ _ _ z1.out hY)
            have n8 := Lib.hid (n1.out.keep hY)
            clear hY
            refine hK.out _ _ ((HS6.out _ z8.out.2.2)) (fun _ => ?_)
            clear hK K
            try simp only [Act.put, List.getElem_toArray, List.getElem_cons_zero, List.getElem_cons_succ, List.setIfInBounds_toArray, List.set_cons_zero, List.set_cons_succ]
            refine wpAnyH_ready (rs := [10]) (by kernel_rfl) (by simp) ?_
            refine AllReadyH.cons rfl (fun K hK => ?_) AllReadyH.nil
            try simp only [List.getElem_toArray, List.getElem_cons_zero, List.getElem_cons_succ]
            rw [if_pos (by rfl)]
            refine wp_store_row _ _ _ rfl _ _ rfl rfl _ _ (n8.out) size_bits rfl (bcells_one _) ?_
            have zz : Hid (RowAt ((y8).setRow wr.heap.size (bcells t)) w.heap.size 58 (three 0) ∧ RowAt ((y8).setRow wr.heap.size (bcells t)) (w.heap.size + 1) 114 (bcells s) ∧ RowAt ((y8).setRow wr.heap.size (bcells t)) wr.heap.size 114 (bcells t) ∧ Below w.heap.size w ((y8).setRow wr.heap.size (bcells t))) := Lib.hid ⟨z8.out.1.setRowOther _ _ (by have := z8.out.2.1.lt; have := n8.out.lt; omega), z8.out.2.1.setRowOther _ _ (by omega), n8.out.setRow _, below_setRow z8.out.2.2 (by omega) _⟩
            refine hK.out _ _ ((HS6.out _ zz.out.2.2.2)) (fun _ => ?_)
            clear hK K
            try simp only [Act.put, List.getElem_toArray, List.getElem_cons_zero, List.getElem_cons_succ, List.setIfInBounds_toArray, List.set_cons_zero, List.set_cons_succ]
            refine wpAnyH_done (by kernel_rfl) ?_ _
            obtain ⟨N, hN⟩ : ∃ N, N = wr.heap.size := ⟨_, rfl⟩
            have hN1 : w.heap.size + 1 < N := by rw [hN]; omega
            rw [← hN] at zz ⊢
            generalize (y8).setRow N (bcells t) = w6 at *
            clear hN
            cases σ with
            | true =>
              have htj : tj = (!si) := by revert hσ; cases si <;> cases tj <;> simp
              subst htj
              clear hσ
              go_wp2_with fail
              have zq : Hid (RowAt (w6.drewN 1) w.heap.size 58 (three 0) ∧ RowAt (w6.drewN 1) (w.heap.size + 1) 114 (bcells s) ∧ RowAt (w6.drewN 1) N 114 (bcells t) ∧ Below w.heap.size w (w6.drewN 1)) := Lib.hid (KQ.out _ _ _ _ zz.out (below_drewN (Below.refl _ _) 1))
              change (Code.region _ _ true).wp _ _ _ _
              refine wp_region_held_drew (S := fun wz => wz.cell? ⟨bS, oS + i, none⟩ = some (.bool si) ∧ wz.cell? ⟨bT, oT + j, none⟩ = some (.bool (!si))) (by kernel_rfl) (HS7.out _ zq.out.2.2.2) (fun hHeld => ?_)
              refine wpAnyH_take (i := 0) (v := ?_) rfl (by kernel_rfl) (by kernel_rfl) (by kernel_rfl) (fun _ _ _ h => h) (Or.inl ⟨by rfl, ?_⟩) (HS7.out _ zq.out.2.2.2) ?_
              rotate_left
              · intro w hSw; (try dsimp only at hSw); go_simp; try with_reducible rfl
              try simp only [Act.put, List.getElem_toArray, List.getElem_cons_zero, List.getElem_cons_succ, List.setIfInBounds_toArray, List.set_cons_zero, List.set_cons_succ]
              refine wpAnyH_take (i := 1) (v := ?_) rfl (by kernel_rfl) (by kernel_rfl) (by kernel_rfl) (fun _ _ _ h => h) (Or.inl ⟨by rfl, ?_⟩) (HS7.out _ zq.out.2.2.2) ?_
              rotate_left
              · intro w hSw; (try dsimp only at hSw); go_simp; try with_reducible rfl
              try simp only [Act.put, List.getElem_toArray, List.getElem_cons_zero, List.getElem_cons_succ, List.setIfInBounds_toArray, List.set_cons_zero, List.set_cons_succ]
              refine wpAnyH_take (i := 2) (v := ?_) rfl (by kernel_rfl) (by kernel_rfl) (by kernel_rfl) (fun _ _ _ h => h) (Or.inl ⟨by rfl, ?_⟩) (HS7.out _ zq.out.2.2.2) ?_
              rotate_left
              · intro w hSw; (try dsimp only at hSw); go_simp; try with_reducible rfl
              try simp only [Act.put, List.getElem_toArray, List.getElem_cons_zero, List.getElem_cons_succ, List.setIfInBounds_toArray, List.set_cons_zero, List.set_cons_succ]
              refine wpAnyH_take (i := 3) (v := ?_) rfl (by kernel_rfl) (by kernel_rfl) (by kernel_rfl) (fun _ _ _ h => h) (Or.inl ⟨by rfl, ?_⟩) (HS7.out _ zq.out.2.2.2) ?_
              rotate_left
              · intro w hSw; (try dsimp only at hSw); go_simp; try with_reducible rfl
              try simp only [Act.put, List.getElem_toArray, List.getElem_cons_zero, List.getElem_cons_succ, List.setIfInBounds_toArray, List.set_cons_zero, List.set_cons_succ]
              refine wpAnyH_take (i := 4) (v := ?_) rfl (by kernel_rfl) (by kernel_rfl) (by kernel_rfl) (fun _ _ _ h => h) (Or.inl ⟨by rfl, ?_⟩) (HS7.out _ zq.out.2.2.2) ?_
              rotate_left
              · intro w hSw; (try dsimp only at hSw); go_simp; try with_reducible rfl
              try simp only [Act.put, List.getElem_toArray, List.getElem_cons_zero, List.getElem_cons_succ, List.setIfInBounds_toArray, List.set_cons_zero, List.set_cons_succ]
              refine wpAnyH_take (i := 5) (v := ?_) rfl (by kernel_rfl) (by kernel_rfl) (by kernel_rfl) (fun _ _ _ h => h) (Or.inl ⟨by rfl, ?_⟩) (HS7.out _ zq.out.2.2.2) ?_
              rotate_left
              · intro w hSw; (try dsimp only at hSw); go_simp; try with_reducible rfl
              try simp only [Act.put, List.getElem_toArray, List.getElem_cons_zero, List.getElem_cons_succ, List.setIfInBounds_toArray, List.set_cons_zero, List.set_cons_succ]
              refine wpAnyH_take (i := 6) (v := ?_) rfl (by kernel_rfl) (by kernel_rfl) (by kernel_rfl) (fun _ _ _ h => h) (Or.inl ⟨by rfl, ?_⟩) (HS7.out _ zq.out.2.2.2) ?_
              rotate_left
              · intro w hSw; (try dsimp only at hSw); go_simp; try with_reducible rfl
              try simp only [Act.put, List.getElem_toArray, List.getElem_cons_zero, List.getElem_cons_succ, List.setIfInBounds_toArray, List.set_cons_zero, List.set_cons_succ]
              refine wpAnyH_take (i := 7) (v := ?_) rfl (by kernel_rfl) (by kernel_rfl) (by kernel_rfl) (fun _ _ _ h => h) (Or.inl ⟨by rfl, ?_⟩) (HS7.out _ zq.out.2.2.2) ?_
              rotate_left
              · intro w hSw; (try dsimp only at hSw); go_simp; try with_reducible rfl
              try simp only [Act.put, List.getElem_toArray, List.getElem_cons_zero, List.getElem_cons_succ, List.setIfInBounds_toArray, List.set_cons_zero, List.set_cons_succ]
              refine wpAnyH_take (i := 8) (v := ?_) rfl (by kernel_rfl) (by kernel_rfl) (by kernel_rfl) (fun _ _ _ h => h) (Or.inl ⟨by rfl, ?_⟩) (HS7.out _ zq.out.2.2.2) ?_
              rotate_left
              · intro w hSw; (try dsimp only at hSw); go_simp; try with_reducible rfl
              try simp only [Act.put, List.getElem_toArray, List.getElem_cons_zero, List.getElem_cons_succ, List.setIfInBounds_toArray, List.set_cons_zero, List.set_cons_succ]
              refine wpAnyH_take (i := 9) (v := ?_) rfl (by kernel_rfl) (by kernel_rfl) (by kernel_rfl) (fun _ _ _ h => h) (Or.inl ⟨by rfl, ?_⟩) (HS7.out _ zq.out.2.2.2) ?_
              rotate_left
              · intro w hSw; (try dsimp only at hSw); go_simp; try with_reducible rfl
              try simp only [Act.put, List.getElem_toArray, List.getElem_cons_zero, List.getElem_cons_succ, List.setIfInBounds_toArray, List.set_cons_zero, List.set_cons_succ]
              refine wpAnyH_take (i := 10) (v := ?_) rfl (by kernel_rfl) (by kernel_rfl) (by kernel_rfl) (fun _ _ _ h => h) (Or.inl ⟨by rfl, ?_⟩) (HS7.out _ zq.out.2.2.2) ?_
              rotate_left
              · intro w hSw; (try dsimp only at hSw); go_simp; try with_reducible rfl
              try simp only [Act.put, List.getElem_toArray, List.getElem_cons_zero, List.getElem_cons_succ, List.setIfInBounds_toArray, List.set_cons_zero, List.set_cons_succ]
              refine wpAnyH_done (by kernel_rfl) ?_ _
              obtain ⟨t', ht'⟩ : ∃ t', t' = turn t := ⟨_, rfl⟩
              have HTu : Hid (∀ W, Calls Tryz.prog 70 #[.agg (bcells t)] W fun e w' => e = .returned (.agg (bcells t')) ∧ Below W.heap.size W w') := Lib.hid (fun W => by rw [ht']; exact r1turn_any t W)
              have HNX2 : Hid (w192m (s + t') = atN X Y k (i + 1)) := Lib.hid (by rw [ht', ← HNX.out]; rfl)
              clear ht'
              go_wp2_with (refine wpList_load_row rfl _ _ rfl _ rfl _ _ _ _ (zq.out.2.2.1) Tryz.underlying114 rfl size_bits ?_)
              refine (HTu.out _).mono ?_
              rintro e w7 ⟨rfl, hB7⟩
              have zt : Hid (RowAt w7 w.heap.size 58 (three 0) ∧ RowAt w7 (w.heap.size + 1) 114 (bcells s) ∧ RowAt w7 N 114 (bcells t) ∧ Below w.heap.size w w7) := Lib.hid (KQ.out _ _ _ _ zq.out hB7)
              have zr : Hid (RowAt (w7.setRow N (bcells t')) w.heap.size 58 (three 0) ∧ RowAt (w7.setRow N (bcells t')) (w.heap.size + 1) 114 (bcells s) ∧ RowAt (w7.setRow N (bcells t')) N 114 (bcells t') ∧ Below w.heap.size w (w7.setRow N (bcells t'))) := Lib.hid ⟨zt.out.1.setRowOther _ _ (by omega), zt.out.2.1.setRowOther _ _ (by omega), zt.out.2.2.1.setRow _, below_setRow zt.out.2.2.2 (by omega) _⟩
              clear hB7 zq zz
              have HSu : Hid (∀ W, Calls Tryz.prog 73 #[.agg (bcells s), .agg (bcells t')] W fun e w' => e = .returned (.agg (bcells (s + t'))) ∧ Below W.heap.size W w') := Lib.hid (fun W => r1sum_any s t' W)
              obtain ⟨u', hu'⟩ : ∃ u', u' = s + t' := ⟨_, rfl⟩
              rw [← hu'] at HSu HNX2
              have HWh := Lib.hid (fun W => r1whole_any u' W)
              obtain ⟨s', hs'⟩ : ∃ s', s' = w192m u' := ⟨_, rfl⟩
              have HBi : Hid (∀ W, Calls Tryz.prog 71 #[.agg (three u')] W fun e w' => e = .returned (.agg (bcells s')) ∧ Below W.heap.size W w') := Lib.hid (fun W => by
                have h := r1bit_any s' (by rw [hs']; exact w192m_lt _) W
                rw [hs', three_w192m] at h
                rw [hs']; exact h)
              have HNX3 : Hid (s' = atN X Y k (i + 1)) := Lib.hid (by rw [hs']; exact HNX2.out)
              clear hu' hs' HNX2
              go_wp2_with (first | (refine wpList_store_row rfl _ _ _ rfl _ _ rfl rfl _ _ (zt.out.2.2.1) size_bits rfl (bcells_one _) ?_) | (refine wpList_load_row rfl _ _ rfl _ rfl _ _ _ _ (zr.out.2.1) Tryz.underlying114 rfl size_bits ?_) | (refine wpList_load_row rfl _ _ rfl _ rfl _ _ _ _ (zr.out.2.2.1) Tryz.underlying114 rfl size_bits ?_))
              refine (HSu.out _).mono ?_
              rintro e w9 ⟨rfl, hB9⟩
              have z9 : Hid (RowAt w9 w.heap.size 58 (three 0) ∧ RowAt w9 (w.heap.size + 1) 114 (bcells s) ∧ Below w.heap.size w w9) := Lib.hid ⟨zr.out.1.keep hB9, zr.out.2.1.keep hB9, zr.out.2.2.2.trans (hB9.mono zr.out.2.2.2.size)⟩
              clear hB9 zr
              go_wp2_with fail
              refine (HWh.out _).mono ?_
              rintro e w10 ⟨rfl, hB10⟩
              have z10 := Lib.hid (KI.out _ _ _ z9.out hB10)
              clear hB10 z9
              go_wp2_with fail
              refine (HBi.out _).mono ?_
              rintro e w11 ⟨rfl, hB11⟩
              have z11 := Lib.hid (KI.out _ _ _ z10.out hB11)
              have z12 : Hid (RowAt (w11.setRow (w.heap.size + 1) (bcells s')) w.heap.size 58 (three 0) ∧ RowAt (w11.setRow (w.heap.size + 1) (bcells s')) (w.heap.size + 1) 114 (bcells s') ∧ Below w.heap.size w (w11.setRow (w.heap.size + 1) (bcells s'))) := Lib.hid ⟨z11.out.1.setRowOther _ _ (by omega), z11.out.2.1.setRow _, below_setRow z11.out.2.2 (by omega) _⟩
              clear hB11 z10
              go_wp2_with (refine wpList_store_row rfl _ _ _ rfl _ _ rfl rfl _ _ (z11.out.2.1) size_bits rfl (bcells_one _) ?_)
              rw [HNX3.out] at z12
              go_roundw
              case rel => exact ⟨i + 1, by go_num, by omega, by rw [← HNX3.out] at z12 ⊢; exact z12⟩
              case measure => simp [intOf]; omega
            | false =>
              have htj : si = tj := by revert hσ; cases si <;> cases tj <;> simp
              subst htj
              clear hσ
              go_wp2_with fail
              have zq : Hid (RowAt (w6.drewN 1) w.heap.size 58 (three 0) ∧ RowAt (w6.drewN 1) (w.heap.size + 1) 114 (bcells s) ∧ RowAt (w6.drewN 1) N 114 (bcells t) ∧ Below w.heap.size w (w6.drewN 1)) := Lib.hid (KQ.out _ _ _ _ zz.out (below_drewN (Below.refl _ _) 1))
              change (Code.region _ _ true).wp _ _ _ _
              refine wp_region_held_drew (S := fun wz => wz.cell? ⟨bS, oS + i, none⟩ = some (.bool si) ∧ wz.cell? ⟨bT, oT + j, none⟩ = some (.bool si)) (by kernel_rfl) (HS7.out _ zq.out.2.2.2) (fun hHeld => ?_)
              refine wpAnyH_take (i := 0) (v := ?_) rfl (by kernel_rfl) (by kernel_rfl) (by kernel_rfl) (fun _ _ _ h => h) (Or.inl ⟨by rfl, ?_⟩) (HS7.out _ zq.out.2.2.2) ?_
              rotate_left
              · intro w hSw; (try dsimp only at hSw); go_simp; try with_reducible rfl
              try simp only [Act.put, List.getElem_toArray, List.getElem_cons_zero, List.getElem_cons_succ, List.setIfInBounds_toArray, List.set_cons_zero, List.set_cons_succ]
              refine wpAnyH_take (i := 1) (v := ?_) rfl (by kernel_rfl) (by kernel_rfl) (by kernel_rfl) (fun _ _ _ h => h) (Or.inl ⟨by rfl, ?_⟩) (HS7.out _ zq.out.2.2.2) ?_
              rotate_left
              · intro w hSw; (try dsimp only at hSw); go_simp; try with_reducible rfl
              try simp only [Act.put, List.getElem_toArray, List.getElem_cons_zero, List.getElem_cons_succ, List.setIfInBounds_toArray, List.set_cons_zero, List.set_cons_succ]
              refine wpAnyH_take (i := 2) (v := ?_) rfl (by kernel_rfl) (by kernel_rfl) (by kernel_rfl) (fun _ _ _ h => h) (Or.inl ⟨by rfl, ?_⟩) (HS7.out _ zq.out.2.2.2) ?_
              rotate_left
              · intro w hSw; (try dsimp only at hSw); go_simp; try with_reducible rfl
              try simp only [Act.put, List.getElem_toArray, List.getElem_cons_zero, List.getElem_cons_succ, List.setIfInBounds_toArray, List.set_cons_zero, List.set_cons_succ]
              refine wpAnyH_take (i := 3) (v := ?_) rfl (by kernel_rfl) (by kernel_rfl) (by kernel_rfl) (fun _ _ _ h => h) (Or.inl ⟨by rfl, ?_⟩) (HS7.out _ zq.out.2.2.2) ?_
              rotate_left
              · intro w hSw; (try dsimp only at hSw); go_simp; try with_reducible rfl
              try simp only [Act.put, List.getElem_toArray, List.getElem_cons_zero, List.getElem_cons_succ, List.setIfInBounds_toArray, List.set_cons_zero, List.set_cons_succ]
              refine wpAnyH_take (i := 4) (v := ?_) rfl (by kernel_rfl) (by kernel_rfl) (by kernel_rfl) (fun _ _ _ h => h) (Or.inl ⟨by rfl, ?_⟩) (HS7.out _ zq.out.2.2.2) ?_
              rotate_left
              · intro w hSw; (try dsimp only at hSw); go_simp; try with_reducible rfl
              try simp only [Act.put, List.getElem_toArray, List.getElem_cons_zero, List.getElem_cons_succ, List.setIfInBounds_toArray, List.set_cons_zero, List.set_cons_succ]
              refine wpAnyH_take (i := 5) (v := ?_) rfl (by kernel_rfl) (by kernel_rfl) (by kernel_rfl) (fun _ _ _ h => h) (Or.inl ⟨by rfl, ?_⟩) (HS7.out _ zq.out.2.2.2) ?_
              rotate_left
              · intro w hSw; (try dsimp only at hSw); go_simp; try with_reducible rfl
              try simp only [Act.put, List.getElem_toArray, List.getElem_cons_zero, List.getElem_cons_succ, List.setIfInBounds_toArray, List.set_cons_zero, List.set_cons_succ]
              refine wpAnyH_take (i := 6) (v := ?_) rfl (by kernel_rfl) (by kernel_rfl) (by kernel_rfl) (fun _ _ _ h => h) (Or.inl ⟨by rfl, ?_⟩) (HS7.out _ zq.out.2.2.2) ?_
              rotate_left
              · intro w hSw; (try dsimp only at hSw); go_simp; try with_reducible rfl
              try simp only [Act.put, List.getElem_toArray, List.getElem_cons_zero, List.getElem_cons_succ, List.setIfInBounds_toArray, List.set_cons_zero, List.set_cons_succ]
              refine wpAnyH_take (i := 7) (v := ?_) rfl (by kernel_rfl) (by kernel_rfl) (by kernel_rfl) (fun _ _ _ h => h) (Or.inl ⟨by rfl, ?_⟩) (HS7.out _ zq.out.2.2.2) ?_
              rotate_left
              · intro w hSw; (try dsimp only at hSw); go_simp; try with_reducible rfl
              try simp only [Act.put, List.getElem_toArray, List.getElem_cons_zero, List.getElem_cons_succ, List.setIfInBounds_toArray, List.set_cons_zero, List.set_cons_succ]
              refine wpAnyH_take (i := 8) (v := ?_) rfl (by kernel_rfl) (by kernel_rfl) (by kernel_rfl) (fun _ _ _ h => h) (Or.inl ⟨by rfl, ?_⟩) (HS7.out _ zq.out.2.2.2) ?_
              rotate_left
              · intro w hSw; (try dsimp only at hSw); go_simp; try with_reducible rfl
              try simp only [Act.put, List.getElem_toArray, List.getElem_cons_zero, List.getElem_cons_succ, List.setIfInBounds_toArray, List.set_cons_zero, List.set_cons_succ]
              refine wpAnyH_take (i := 9) (v := ?_) rfl (by kernel_rfl) (by kernel_rfl) (by kernel_rfl) (fun _ _ _ h => h) (Or.inl ⟨by rfl, ?_⟩) (HS7.out _ zq.out.2.2.2) ?_
              rotate_left
              · intro w hSw; (try dsimp only at hSw); go_simp; try with_reducible rfl
              try simp only [Act.put, List.getElem_toArray, List.getElem_cons_zero, List.getElem_cons_succ, List.setIfInBounds_toArray, List.set_cons_zero, List.set_cons_succ]
              refine wpAnyH_take (i := 10) (v := ?_) rfl (by kernel_rfl) (by kernel_rfl) (by kernel_rfl) (fun _ _ _ h => h) (Or.inl ⟨by rfl, ?_⟩) (HS7.out _ zq.out.2.2.2) ?_
              rotate_left
              · intro w hSw; (try dsimp only at hSw); go_simp; try with_reducible rfl
              try simp only [Act.put, List.getElem_toArray, List.getElem_cons_zero, List.getElem_cons_succ, List.setIfInBounds_toArray, List.set_cons_zero, List.set_cons_succ]
              refine wpAnyH_done (by kernel_rfl) ?_ _
              have HNX2 : Hid (w192m (s + t) = atN X Y k (i + 1)) := Lib.hid (by rw [← HNX.out]; rfl)
              have zr := zq
              clear zq zz
              have HSu : Hid (∀ W, Calls Tryz.prog 73 #[.agg (bcells s), .agg (bcells t)] W fun e w' => e = .returned (.agg (bcells (s + t))) ∧ Below W.heap.size W w') := Lib.hid (fun W => r1sum_any s t W)
              obtain ⟨u', hu'⟩ : ∃ u', u' = s + t := ⟨_, rfl⟩
              rw [← hu'] at HSu HNX2
              have HWh := Lib.hid (fun W => r1whole_any u' W)
              obtain ⟨s', hs'⟩ : ∃ s', s' = w192m u' := ⟨_, rfl⟩
              have HBi : Hid (∀ W, Calls Tryz.prog 71 #[.agg (three u')] W fun e w' => e = .returned (.agg (bcells s')) ∧ Below W.heap.size W w') := Lib.hid (fun W => by
                have h := r1bit_any s' (by rw [hs']; exact w192m_lt _) W
                rw [hs', three_w192m] at h
                rw [hs']; exact h)
              have HNX3 : Hid (s' = atN X Y k (i + 1)) := Lib.hid (by rw [hs']; exact HNX2.out)
              clear hu' hs' HNX2
              go_wp2_with (first | (refine wpList_load_row rfl _ _ rfl _ rfl _ _ _ _ (zr.out.2.1) Tryz.underlying114 rfl size_bits ?_) | (refine wpList_load_row rfl _ _ rfl _ rfl _ _ _ _ (zr.out.2.2.1) Tryz.underlying114 rfl size_bits ?_))
              refine (HSu.out _).mono ?_
              rintro e w9 ⟨rfl, hB9⟩
              have z9 : Hid (RowAt w9 w.heap.size 58 (three 0) ∧ RowAt w9 (w.heap.size + 1) 114 (bcells s) ∧ Below w.heap.size w w9) := Lib.hid ⟨zr.out.1.keep hB9, zr.out.2.1.keep hB9, zr.out.2.2.2.trans (hB9.mono zr.out.2.2.2.size)⟩
              clear hB9 zr
              go_wp2_with fail
              refine (HWh.out _).mono ?_
              rintro e w10 ⟨rfl, hB10⟩
              have z10 := Lib.hid (KI.out _ _ _ z9.out hB10)
              clear hB10 z9
              go_wp2_with fail
              refine (HBi.out _).mono ?_
              rintro e w11 ⟨rfl, hB11⟩
              have z11 := Lib.hid (KI.out _ _ _ z10.out hB11)
              have z12 : Hid (RowAt (w11.setRow (w.heap.size + 1) (bcells s')) w.heap.size 58 (three 0) ∧ RowAt (w11.setRow (w.heap.size + 1) (bcells s')) (w.heap.size + 1) 114 (bcells s') ∧ Below w.heap.size w (w11.setRow (w.heap.size + 1) (bcells s'))) := Lib.hid ⟨z11.out.1.setRowOther _ _ (by omega), z11.out.2.1.setRow _, below_setRow z11.out.2.2 (by omega) _⟩
              clear hB11 z10
              go_wp2_with (refine wpList_store_row rfl _ _ _ rfl _ _ rfl rfl _ _ (z11.out.2.1) size_bits rfl (bcells_one _) ?_)
              rw [HNX3.out] at z12
              go_roundw
              case rel => exact ⟨i + 1, by go_num, by omega, by rw [← HNX3.out] at z12 ⊢; exact z12⟩
              case measure => simp [intOf]; omega
    · obtain rfl : i = L.length := by omega
      have hx := atN_end X Y k
      rw [HX.out.1] at hx
      obtain ⟨s, hs⟩ : ∃ s, s = w192 (cI X Y k) := ⟨_, rfl⟩
      have z0 : Hid (RowAt wr w.heap.size 58 (three 0) ∧ RowAt wr (w.heap.size + 1) 114 (bcells s) ∧ Below w.heap.size w wr) := Lib.hid (by rw [hs, ← hx]; exact Q.out)
      have HWh := Lib.hid (fun W => r1whole_any s W)
      have HSE := Lib.hid hs
      clear hx hs Q
      go_wp2_with (refine wpList_load_row rfl _ _ rfl _ rfl _ _ _ _ (z0.out.2.1) Tryz.underlying114 rfl size_bits ?_)
      refine (HWh.out _).mono ?_
      rintro e w9 ⟨rfl, hB9⟩
      have z9 := Lib.hid (KI.out _ _ _ z0.out hB9)
      clear hB9 z0
      go_wp2_with (refine wpList_store_row rfl _ _ _ rfl _ _ rfl rfl _ _ (z9.out.1) size_words rfl (three_one _) ?_)
      refine bodyPost_ret (results_cell_row rfl _ _ _ _ _ _ _ rfl (z9.out.1.setRow _) Tryz.underlying58 rfl size_words) (by rfl) ?_
      exact ⟨by rw [← HSE.out], below_setRow z9.out.2.2 (Nat.le_refl _) _⟩
end Go.Proofs.YtemoginoanhjlaaGreat
