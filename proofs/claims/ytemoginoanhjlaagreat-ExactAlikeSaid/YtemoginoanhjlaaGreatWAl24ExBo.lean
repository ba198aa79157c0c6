/- law 24: alive. -/
import Derived.Test.YtemoginoanhjlaaGreatWExNToExS
import Derived.Test.YtemoginoanhjlaaGreatWB01CGarBEqT
import Derived.Test.YtemoginoanhjlaaGreatTr24
import Derived.Test.YtemoginoanhjlaaGreatEx24
set_option linter.unusedVariables false
set_option linter.unusedSimpArgs false
set_option linter.unusedSectionVars false
section
/- law 24: alive. -/
set_option linter.unusedVariables false
set_option linter.unusedSimpArgs false
namespace Go.Proofs.YtemoginoanhjlaaGreat
open Go.RowKit
open Alg
theorem known_fp (i : Int) (hi : 0 ≤ i ∧ i ≤ 5) (w : World) : Calls Tryz.prog 44 #[.int .i64 i] w fun r w' => ∃ v, r = .returned (.tuple #[v, .int .i64 0]) ∧ FP w' v (knownPG i).1.toNat ∧ Below w.heap.size w w' :=
  (Known_any i w).mono fun r w' h => by
    obtain ⟨hB, ⟨er, h0, _⟩ | ⟨v, h3, hC, hr, hF⟩⟩ := h
    · have := knownPG_pos hi
      omega
    · obtain ⟨q, hq, hf⟩ := FP.of (.inr ⟨h3, hC, hF⟩ : MadeR v _ _ w')
      refine ⟨v, hr, ?_, hB⟩
      rw [hq, Int.toNat_natCast]
      exact hf
theorem alive24_chk : chkX (knownPG 0).1.toNat (knownPG 1).1.toNat (knownPG 2).1.toNat 2 2 (mostL (sizesL [-1, 2])).toNat (mostL (sizesL [3, -4])).toNat true = 0 := by decide +kernel
theorem alive24_tri (h0 : Prime (knownPG 0).1.toNat) (h1 : Prime (knownPG 1).1.toNat) (h2 : Prime (knownPG 2).1.toNat) : Tri (knownPG 0).1.toNat (knownPG 1).1.toNat (knownPG 2).1.toNat :=
  ⟨h0, h1, h2, by decide +kernel, by decide +kernel, by decide +kernel, by decide +kernel, by decide +kernel, by decide +kernel, by decide +kernel, by decide +kernel, by decide +kernel⟩
set_option maxHeartbeats 8000000 in
set_option maxRecDepth 100000 in
theorem alive24_any (w : World) : Calls Tryz.prog 25 #[] w fun e w' => e = .returned (.bool true) ∧ Below w.heap.size w w' := by
  have HK := Lib.hid (fun (i : Int) (hi : 0 ≤ i ∧ i ≤ 5) W => known_fp i hi W)
  have HO0 : Hid (∀ W, Calls Tryz.prog 58 #[.int .i64 (-3)] W fun e w' => e = .returned (.agg (three (w192 (cI [-1, 2] [3, -4] 0)))) ∧ Below W.heap.size W w') := Lib.hid (fun W => lof_any (-3) (by omega) (by omega) W)
  have HO1 : Hid (∀ W, Calls Tryz.prog 58 #[.int .i64 10] W fun e w' => e = .returned (.agg (three (w192 (cI [-1, 2] [3, -4] 1)))) ∧ Below W.heap.size W w') := Lib.hid (fun W => lof_any 10 (by omega) (by omega) W)
  have HO2 : Hid (∀ W, Calls Tryz.prog 58 #[.int .i64 (-8)] W fun e w' => e = .returned (.agg (three (w192 (cI [-1, 2] [3, -4] 2)))) ∧ Below W.heap.size W w') := Lib.hid (fun W => lof_any (-8) (by omega) (by omega) W)
  go_enter Tryz.func25, Tryz.ntmps25
  go_wp2_with fail
  refine (HK.out 0 (by omega) _).mono ?_
  rintro r w1 ⟨va, rfl, hFa, hB1⟩
  go_wp2_with fail
  refine (HK.out 1 (by omega) _).mono ?_
  rintro r w2 ⟨vb, rfl, hFb, hB2⟩
  have hFa := hFa.keep hB2
  have hB2 := hB1.trans (hB2.mono hB1.size)
  go_wp2_with fail
  refine (HK.out 2 (by omega) _).mono ?_
  rintro r w3 ⟨vc, rfl, hFc, hB3⟩
  have HFa := Lib.hid (hFa.keep hB3)
  have HFb := Lib.hid (hFb.keep hB3)
  have HFc := Lib.hid hFc
  have HB3 := Lib.hid (hB2.trans (hB3.mono hB2.size))
  clear hFa hFb hFc hB1 hB2 hB3 HK
  have hT := alive24_tri (HFa.out.2.2 (by decide +kernel)) (HFb.out.2.2 (by decide +kernel)) (HFc.out.2.2 (by decide +kernel))
  have HCk := Lib.hid alive24_chk
  obtain ⟨p, hp⟩ : ∃ p, p = (knownPG 0).1.toNat := ⟨_, rfl⟩
  obtain ⟨q, hq⟩ : ∃ q, q = (knownPG 1).1.toNat := ⟨_, rfl⟩
  obtain ⟨r, hr⟩ : ∃ r, r = (knownPG 2).1.toNat := ⟨_, rfl⟩
  rw [← hp] at HFa HCk hT
  rw [← hq] at HFb HCk hT
  rw [← hr] at HFc HCk hT
  clear hp hq hr
  have HT := Lib.hid hT
  clear hT
  go_wp2_with fail
  refine (tnew_yes HFa.out.1 HFb.out.1 HFc.out.1 HT.out).mono ?_
  rintro r w4 ⟨v, rfl, hv, hB4⟩
  have hs4 := (HB3.out.trans (hB4.mono HB3.out.size)).size
  obtain ⟨W5, hW5⟩ : ∃ W, W = ((w4.alloc (.cells #[.int .i64 (-1), .int .i64 2] 3)).alloc (.cells #[.int .i64 3, .int .i64 (-4)] 3)) := ⟨_, rfl⟩
  have L5 := lay2 w4 3 3 #[.int .i64 (-1), .int .i64 2] #[.int .i64 3, .int .i64 (-4)]
  rw [← hW5] at L5
  have HSg : Hid (Calls Tryz.prog 27 #[v, .slice (some ⟨w4.heap.size, 0, none⟩) 2 2, .slice (some ⟨w4.heap.size + 1, 0, none⟩) 2 2] W5 fun e w' => ∃ G, e = .returned (.tuple #[.slice (some ⟨G, 0, none⟩) 3 3, .int .i64 0]) ∧ (R3 w' G 3 (fun k => w192 (cI [-1, 2] [3, -4] k)) ∧ Below w.heap.size w w')) := Lib.hid (by
    have hx := xsgn_yes (w := W5) ((hv.below L5.2.2).mono L5.2.2.size) HT.out (some ⟨w4.heap.size, 0, none⟩) (some ⟨w4.heap.size + 1, 0, none⟩) 2 2 [-1, 2] [3, -4] (by decide) (by decide) (fun x hx => by simp at hx; omega) (fun x hx => by simp at hx; omega)
      (fun _ => ⟨_, _, rfl, L5.1.lt, fun j hj => by
        match j, hj with
        | 0, _ => exact L5.1.cell rfl
        | 1, _ => exact L5.1.cell rfl⟩)
      (fun _ => ⟨_, _, rfl, L5.2.1.lt, fun j hj => by
        match j, hj with
        | 0, _ => exact L5.2.1.cell rfl
        | 1, _ => exact L5.2.1.cell rfl⟩)
    refine hx.mono ?_
    rintro e w' ⟨⟨h0, _⟩ | ⟨_, G, e1, e2, e3⟩, hB⟩
    · exact absurd HCk.out h0
    · exact ⟨G, e1, e3, ((HB3.out.trans (hB4.mono HB3.out.size)).trans (L5.2.2.mono hs4)).trans (hB.mono (by have := L5.2.2.size; omega))⟩)
  clear hv hB4 HFa HFb HFc HB3 HCk HT L5
  go_wp2_with fail
  rw [← hW5]
  clear hW5
  refine HSg.out.mono ?_
  rintro e w6 ⟨G, rfl, hK⟩
  have HK6 := Lib.hid hK
  clear hK HSg
  have HSl : Hid (∀ W, (R3 W G 3 (fun k => w192 (cI [-1, 2] [3, -4] k)) ∧ Below w.heap.size w W) → W.rangeAt G 0 (tl (w192 (cI [-1, 2] [3, -4] 0))) ∧ W.rangeAt G 3 (tl (w192 (cI [-1, 2] [3, -4] 1))) ∧ W.rangeAt G 6 (tl (w192 (cI [-1, 2] [3, -4] 2)))) := Lib.hid (fun W h => ⟨h.1.range 0 (by omega), h.1.range 1 (by omega), h.1.range 2 (by omega)⟩)
  have KP : Hid (∀ W W', (R3 W G 3 (fun k => w192 (cI [-1, 2] [3, -4] k)) ∧ Below w.heap.size w W) → Below W.heap.size W W' → (R3 W' G 3 (fun k => w192 (cI [-1, 2] [3, -4] k)) ∧ Below w.heap.size w W')) := Lib.hid (fun W W' h hB => ⟨h.1.keep hB, h.2.trans (hB.mono h.2.size)⟩)
  have e0 : ∀ W, (Op.equalIn 10000 69 (.agg (tl (w192 (cI [-1, 2] [3, -4] 0))).toArray) (.agg (three (w192 (cI [-1, 2] [3, -4] 0))))).run Tryz.prog W = .ok true W := fun W => by rw [tl_list, eqn_three _ _ (w192_lt _) (w192_lt _)]; simp
  have e1 : ∀ W, (Op.equalIn 10000 69 (.agg (tl (w192 (cI [-1, 2] [3, -4] 1))).toArray) (.agg (three (w192 (cI [-1, 2] [3, -4] 1))))).run Tryz.prog W = .ok true W := fun W => by rw [tl_list, eqn_three _ _ (w192_lt _) (w192_lt _)]; simp
  have e2 : ∀ W, (Op.equalIn 10000 69 (.agg (tl (w192 (cI [-1, 2] [3, -4] 2))).toArray) (.agg (three (w192 (cI [-1, 2] [3, -4] 2))))).run Tryz.prog W = .ok true W := fun W => by rw [tl_list, eqn_three _ _ (w192_lt _) (w192_lt _)]; simp
  obtain ⟨x0, hx0⟩ : ∃ x, x = w192 (cI [-1, 2] [3, -4] 0) := ⟨_, rfl⟩
  obtain ⟨x1, hx1⟩ : ∃ x, x = w192 (cI [-1, 2] [3, -4] 1) := ⟨_, rfl⟩
  obtain ⟨x2, hx2⟩ : ∃ x, x = w192 (cI [-1, 2] [3, -4] 2) := ⟨_, rfl⟩
  rw [← hx0] at HSl e0 HO0
  rw [← hx1] at HSl e1 HO1
  rw [← hx2] at HSl e2 HO2
  clear hx0 hx1 hx2
  have z0 : Hid (R3 (w6.drewN 1) G 3 (fun k => w192 (cI [-1, 2] [3, -4] k)) ∧ Below w.heap.size w (w6.drewN 1)) := Lib.hid (KP.out _ _ HK6.out (below_drewN (Below.refl _ _) 1))
  go_wp2_with fail
  change (Code.region _ _ true).wp _ _ _ _
  refine wp_region_held_drew (S := fun wz => wz.rangeAt G 0 (tl x0) ∧ wz.rangeAt G 3 (tl x1) ∧ wz.rangeAt G 6 (tl x2)) (by kernel_rfl) ((HSl.out _ z0.out)) (fun hHeld => ?_)
  refine wpAnyH_take (i := 0) (v := ?_) rfl (by kernel_rfl) (by kernel_rfl) (by kernel_rfl) (fun _ _ _ h => h) (Or.inl ⟨by rfl, ?_⟩) (HSl.out _ z0.out) ?_
  rotate_left
  · intro w hSw; (try dsimp only at hSw); go_simp; try with_reducible rfl
  try simp only [Act.put, List.getElem_toArray, List.getElem_cons_zero, List.getElem_cons_succ, List.setIfInBounds_toArray, List.set_cons_zero, List.set_cons_succ]
  refine wpAnyH_take (i := 1) (v := ?_) rfl (by kernel_rfl) (by kernel_rfl) (by kernel_rfl) (fun _ _ _ h => h) (Or.inl ⟨by rfl, ?_⟩) (HSl.out _ z0.out) ?_
  rotate_left
  · intro w hSw; (try dsimp only at hSw); go_simp; try with_reducible rfl
  try simp only [Act.put, List.getElem_toArray, List.getElem_cons_zero, List.getElem_cons_succ, List.setIfInBounds_toArray, List.set_cons_zero, List.set_cons_succ]
  refine wpAnyH_take (i := 2) (v := ?_) rfl (by kernel_rfl) (by kernel_rfl) (by kernel_rfl) (fun _ _ _ h => h) (Or.inl ⟨by rfl, ?_⟩) (HSl.out _ z0.out) ?_
  rotate_left
  · intro w hSw; (try dsimp only at hSw); go_simp; try with_reducible rfl
  try simp only [Act.put, List.getElem_toArray, List.getElem_cons_zero, List.getElem_cons_succ, List.setIfInBounds_toArray, List.set_cons_zero, List.set_cons_succ]
  refine wpAnyH_take (i := 3) (v := ?_) rfl (by kernel_rfl) (by kernel_rfl) (by kernel_rfl) (fun _ _ _ h => h) (Or.inl ⟨by rfl, ?_⟩) (HSl.out _ z0.out) ?_
  rotate_left
  · intro w hSw; (try dsimp only at hSw); go_simp; try with_reducible rfl
  try simp only [Act.put, List.getElem_toArray, List.getElem_cons_zero, List.getElem_cons_succ, List.setIfInBounds_toArray, List.set_cons_zero, List.set_cons_succ]
  refine wpAnyH_take (i := 4) (v := ?_) rfl (by kernel_rfl) (by kernel_rfl) (by kernel_rfl) (fun _ _ _ h => h) (Or.inl ⟨by rfl, ?_⟩) (HSl.out _ z0.out) ?_
  rotate_left
  · intro w hSw; (try dsimp only at hSw); go_simp; try with_reducible rfl
  try simp only [Act.put, List.getElem_toArray, List.getElem_cons_zero, List.getElem_cons_succ, List.setIfInBounds_toArray, List.set_cons_zero, List.set_cons_succ]
  refine wpAnyH_take (i := 5) (v := ?_) rfl (by kernel_rfl) (by kernel_rfl) (by kernel_rfl) (fun _ _ _ h => h) (Or.inl ⟨by rfl, ?_⟩) (HSl.out _ z0.out) ?_
  rotate_left
  · intro w hSw; (try dsimp only at hSw); go_simp; try with_reducible rfl
  try simp only [Act.put, List.getElem_toArray, List.getElem_cons_zero, List.getElem_cons_succ, List.setIfInBounds_toArray, List.set_cons_zero, List.set_cons_succ]
  refine wpAnyH_take (i := 6) (v := ?_) rfl (by kernel_rfl) (by kernel_rfl) (by kernel_rfl) (fun _ _ _ h => h) (Or.inl ⟨by rfl, ?_⟩) (HSl.out _ z0.out) ?_
  rotate_left
  · intro w hSw; (try dsimp only at hSw); go_simp; try with_reducible rfl
  try simp only [Act.put, List.getElem_toArray, List.getElem_cons_zero, List.getElem_cons_succ, List.setIfInBounds_toArray, List.set_cons_zero, List.set_cons_succ]
  refine wpAnyH_take (i := 7) (v := ?_) rfl (by kernel_rfl) (by kernel_rfl) (by kernel_rfl) (fun _ _ _ h => h) (Or.inl ⟨by rfl, ?_⟩) (HSl.out _ z0.out) ?_
  rotate_left
  · intro w hSw; (try dsimp only at hSw); go_simp; try with_reducible rfl
  try simp only [Act.put, List.getElem_toArray, List.getElem_cons_zero, List.getElem_cons_succ, List.setIfInBounds_toArray, List.set_cons_zero, List.set_cons_succ]
  refine wpAnyH_take (i := 8) (v := ?_) rfl (by kernel_rfl) (by kernel_rfl) (by kernel_rfl) (fun _ _ _ h => h) (Or.inl ⟨by rfl, ?_⟩) (HSl.out _ z0.out) ?_
  rotate_left
  · intro w hSw; (try dsimp only at hSw); go_simp; try with_reducible rfl
  try simp only [Act.put, List.getElem_toArray, List.getElem_cons_zero, List.getElem_cons_succ, List.setIfInBounds_toArray, List.set_cons_zero, List.set_cons_succ]
  refine wpAnyH_take (i := 9) (v := ?_) rfl (by kernel_rfl) (by kernel_rfl) (by kernel_rfl) (fun _ _ _ h => h) (Or.inl ⟨by rfl, ?_⟩) (HSl.out _ z0.out) ?_
  rotate_left
  · intro w hSw; (try dsimp only at hSw); go_simp; try with_reducible rfl
  try simp only [Act.put, List.getElem_toArray, List.getElem_cons_zero, List.getElem_cons_succ, List.setIfInBounds_toArray, List.set_cons_zero, List.set_cons_succ]
  refine wpAnyH_take (i := 10) (v := ?_) rfl (by kernel_rfl) (by kernel_rfl) (by kernel_rfl) (fun _ _ _ h => h) (Or.inl ⟨by rfl, ?_⟩) (HSl.out _ z0.out) ?_
  rotate_left
  · intro w hSw; (try dsimp only at hSw); go_simp; try with_reducible rfl
  try simp only [Act.put, List.getElem_toArray, List.getElem_cons_zero, List.getElem_cons_succ, List.setIfInBounds_toArray, List.set_cons_zero, List.set_cons_succ]
  refine wpAnyH_take (i := 11) (v := ?_) rfl (by kernel_rfl) (by kernel_rfl) (by kernel_rfl) (fun _ _ _ h => h) (Or.inl ⟨by rfl, ?_⟩) (HSl.out _ z0.out) ?_
  rotate_left
  · intro w hSw; (try dsimp only at hSw); go_simp; try with_reducible rfl
  try simp only [Act.put, List.getElem_toArray, List.getElem_cons_zero, List.getElem_cons_succ, List.setIfInBounds_toArray, List.set_cons_zero, List.set_cons_succ]
  refine wpAnyH_take (i := 12) (v := ?_) rfl (by kernel_rfl) (by kernel_rfl) (by kernel_rfl) (fun _ _ _ h => h) (Or.inl ⟨by rfl, ?_⟩) (HSl.out _ z0.out) ?_
  rotate_left
  · intro w hSw; (try dsimp only at hSw); go_simp; try with_reducible rfl
  try simp only [Act.put, List.getElem_toArray, List.getElem_cons_zero, List.getElem_cons_succ, List.setIfInBounds_toArray, List.set_cons_zero, List.set_cons_succ]
  refine wpAnyH_take (i := 13) (v := ?_) rfl (by kernel_rfl) (by kernel_rfl) (by kernel_rfl) (fun _ _ _ h => h) (Or.inl ⟨by rfl, ?_⟩) (HSl.out _ z0.out) ?_
  rotate_left
  · intro w hSw; (try dsimp only at hSw); go_simp; try with_reducible rfl
  try simp only [Act.put, List.getElem_toArray, List.getElem_cons_zero, List.getElem_cons_succ, List.setIfInBounds_toArray, List.set_cons_zero, List.set_cons_succ]
  refine wpAnyH_take (i := 14) rfl (by kernel_rfl) (by kernel_rfl) (by kernel_rfl) (fun _ _ _ h => h) (yieldsIf_load_mid (by rfl) _ _ rfl _ _ rfl _ _ (fun wz h => h.1) Tryz.underlying69 rfl (by exact size_three)) (HSl.out _ z0.out) ?_
  try simp only [Act.put, List.getElem_toArray, List.getElem_cons_zero, List.getElem_cons_succ, List.setIfInBounds_toArray, List.set_cons_zero, List.set_cons_succ]
  refine wpAnyH_ready (rs := [15]) (by kernel_rfl) (by simp) ?_
  refine AllReadyH.cons rfl (fun K hK => ?_) AllReadyH.nil
  try simp only [List.getElem_toArray, List.getElem_cons_zero, List.getElem_cons_succ]
  rw [if_pos (by rfl)]
  go_wp2_with (go_at_call 58; refine (HO0.out _).mono ?_; rintro e y1 ⟨rfl, hY⟩)
  have z1 := Lib.hid (KP.out _ _ z0.out hY)
  clear hY
  refine hK.out _ _ ((HSl.out _ z1.out)) (fun _ => ?_)
  clear hK K
  try simp only [Act.put, List.getElem_toArray, List.getElem_cons_zero, List.getElem_cons_succ, List.setIfInBounds_toArray, List.set_cons_zero, List.set_cons_succ]
  refine wpAnyH_take (i := 16) (v := ?_) rfl (by kernel_rfl) (by kernel_rfl) (by kernel_rfl) (fun _ _ _ h => h) (Or.inl ⟨by rfl, ?_⟩) (HSl.out _ z1.out) ?_
  rotate_left
  · intro w hSw; (try dsimp only at hSw); go_simp; try with_reducible rfl
  try simp only [Act.put, List.getElem_toArray, List.getElem_cons_zero, List.getElem_cons_succ, List.setIfInBounds_toArray, List.set_cons_zero, List.set_cons_succ]
  refine wpAnyH_take (i := 17) (v := ?_) rfl (by kernel_rfl) (by kernel_rfl) (by kernel_rfl) (fun _ _ _ h => h) (Or.inl ⟨by rfl, ?_⟩) (HSl.out _ z1.out) ?_
  rotate_left
  · intro w hSw; (try dsimp only at hSw); go_simp; try with_reducible rfl
  try simp only [Act.put, List.getElem_toArray, List.getElem_cons_zero, List.getElem_cons_succ, List.setIfInBounds_toArray, List.set_cons_zero, List.set_cons_succ]
  refine wpAnyH_take (i := 18) (v := ?_) rfl (by kernel_rfl) (by kernel_rfl) (by kernel_rfl) (fun _ _ _ h => h) (Or.inl ⟨by rfl, ?_⟩) (HSl.out _ z1.out) ?_
  rotate_left
  · intro w hSw; (try dsimp only at hSw); go_simp; try with_reducible rfl
  try simp only [Act.put, List.getElem_toArray, List.getElem_cons_zero, List.getElem_cons_succ, List.setIfInBounds_toArray, List.set_cons_zero, List.set_cons_succ]
  refine wpAnyH_take (i := 19) (v := ?_) rfl (by kernel_rfl) (by kernel_rfl) (by kernel_rfl) (fun _ _ _ h => h) (Or.inl ⟨by rfl, ?_⟩) (HSl.out _ z1.out) ?_
  rotate_left
  · intro w hSw; (try dsimp only at hSw); go_simp; try with_reducible rfl
  try simp only [Act.put, List.getElem_toArray, List.getElem_cons_zero, List.getElem_cons_succ, List.setIfInBounds_toArray, List.set_cons_zero, List.set_cons_succ]
  refine wpAnyH_take (i := 20) (v := ?_) rfl (by kernel_rfl) (by kernel_rfl) (by kernel_rfl) (fun _ _ _ h => h) (Or.inl ⟨by rfl, ?_⟩) (HSl.out _ z1.out) ?_
  rotate_left
  · intro w hSw; (try dsimp only at hSw); go_simp; try with_reducible rfl
  try simp only [Act.put, List.getElem_toArray, List.getElem_cons_zero, List.getElem_cons_succ, List.setIfInBounds_toArray, List.set_cons_zero, List.set_cons_succ]
  refine wpAnyH_take (i := 21) rfl (by kernel_rfl) (by kernel_rfl) (by kernel_rfl) (fun _ _ _ h => h) (yieldsIf_load_mid (by rfl) _ _ rfl _ _ rfl _ _ (fun wz h => h.2.1) Tryz.underlying69 rfl (by exact size_three)) (HSl.out _ z1.out) ?_
  try simp only [Act.put, List.getElem_toArray, List.getElem_cons_zero, List.getElem_cons_succ, List.setIfInBounds_toArray, List.set_cons_zero, List.set_cons_succ]
  refine wpAnyH_ready (rs := [22]) (by kernel_rfl) (by simp) ?_
  refine AllReadyH.cons rfl (fun K hK => ?_) AllReadyH.nil
  try simp only [List.getElem_toArray, List.getElem_cons_zero, List.getElem_cons_succ]
  rw [if_pos (by rfl)]
  go_wp2_with (go_at_call 58; refine (HO1.out _).mono ?_; rintro e y2 ⟨rfl, hY⟩)
  have z2 := Lib.hid (KP.out _ _ z1.out hY)
  clear hY
  refine hK.out _ _ ((HSl.out _ z2.out)) (fun _ => ?_)
  clear hK K
  try simp only [Act.put, List.getElem_toArray, List.getElem_cons_zero, List.getElem_cons_succ, List.setIfInBounds_toArray, List.set_cons_zero, List.set_cons_succ]
  refine wpAnyH_take (i := 23) (v := ?_) rfl (by kernel_rfl) (by kernel_rfl) (by kernel_rfl) (fun _ _ _ h => h) (Or.inl ⟨by rfl, ?_⟩) (HSl.out _ z2.out) ?_
  rotate_left
  · intro w hSw; (try dsimp only at hSw); go_simp; try with_reducible rfl
  try simp only [Act.put, List.getElem_toArray, List.getElem_cons_zero, List.getElem_cons_succ, List.setIfInBounds_toArray, List.set_cons_zero, List.set_cons_succ]
  refine wpAnyH_take (i := 24) (v := ?_) rfl (by kernel_rfl) (by kernel_rfl) (by kernel_rfl) (fun _ _ _ h => h) (Or.inl ⟨by rfl, ?_⟩) (HSl.out _ z2.out) ?_
  rotate_left
  · intro w hSw; (try dsimp only at hSw); go_simp; try with_reducible rfl
  try simp only [Act.put, List.getElem_toArray, List.getElem_cons_zero, List.getElem_cons_succ, List.setIfInBounds_toArray, List.set_cons_zero, List.set_cons_succ]
  refine wpAnyH_take (i := 25) (v := ?_) rfl (by kernel_rfl) (by kernel_rfl) (by kernel_rfl) (fun _ _ _ h => h) (Or.inl ⟨by rfl, ?_⟩) (HSl.out _ z2.out) ?_
  rotate_left
  · intro w hSw; (try dsimp only at hSw); go_simp; try with_reducible rfl
  try simp only [Act.put, List.getElem_toArray, List.getElem_cons_zero, List.getElem_cons_succ, List.setIfInBounds_toArray, List.set_cons_zero, List.set_cons_succ]
  refine wpAnyH_take (i := 26) (v := ?_) rfl (by kernel_rfl) (by kernel_rfl) (by kernel_rfl) (fun _ _ _ h => h) (Or.inl ⟨by rfl, ?_⟩) (HSl.out _ z2.out) ?_
  rotate_left
  · intro w hSw; (try dsimp only at hSw); go_simp; try with_reducible rfl
  try simp only [Act.put, List.getElem_toArray, List.getElem_cons_zero, List.getElem_cons_succ, List.setIfInBounds_toArray, List.set_cons_zero, List.set_cons_succ]
  refine wpAnyH_take (i := 27) (v := ?_) rfl (by kernel_rfl) (by kernel_rfl) (by kernel_rfl) (fun _ _ _ h => h) (Or.inl ⟨by rfl, ?_⟩) (HSl.out _ z2.out) ?_
  rotate_left
  · intro w hSw; (try dsimp only at hSw); go_simp; try with_reducible rfl
  try simp only [Act.put, List.getElem_toArray, List.getElem_cons_zero, List.getElem_cons_succ, List.setIfInBounds_toArray, List.set_cons_zero, List.set_cons_succ]
  refine wpAnyH_take (i := 28) rfl (by kernel_rfl) (by kernel_rfl) (by kernel_rfl) (fun _ _ _ h => h) (yieldsIf_load_mid (by rfl) _ _ rfl _ _ rfl _ _ (fun wz h => h.2.2) Tryz.underlying69 rfl (by exact size_three)) (HSl.out _ z2.out) ?_
  try simp only [Act.put, List.getElem_toArray, List.getElem_cons_zero, List.getElem_cons_succ, List.setIfInBounds_toArray, List.set_cons_zero, List.set_cons_succ]
  refine wpAnyH_ready (rs := [29]) (by kernel_rfl) (by simp) ?_
  refine AllReadyH.cons rfl (fun K hK => ?_) AllReadyH.nil
  try simp only [List.getElem_toArray, List.getElem_cons_zero, List.getElem_cons_succ]
  rw [if_pos (by rfl)]
  go_wp2_with (go_at_call 58; refine (HO2.out _).mono ?_; rintro e y3 ⟨rfl, hY⟩)
  have z3 := Lib.hid (KP.out _ _ z2.out hY)
  clear hY
  refine hK.out _ _ ((HSl.out _ z3.out)) (fun _ => ?_)
  clear hK K
  try simp only [Act.put, List.getElem_toArray, List.getElem_cons_zero, List.getElem_cons_succ, List.setIfInBounds_toArray, List.set_cons_zero, List.set_cons_succ]
  refine wpAnyH_take (i := 30) (v := ?_) rfl (by kernel_rfl) (by kernel_rfl) (by kernel_rfl) (fun _ _ _ h => h) (Or.inl ⟨by rfl, ?_⟩) (HSl.out _ z3.out) ?_
  rotate_left
  · intro w hSw; (try dsimp only at hSw); go_simp; try with_reducible rfl
  try simp only [Act.put, List.getElem_toArray, List.getElem_cons_zero, List.getElem_cons_succ, List.setIfInBounds_toArray, List.set_cons_zero, List.set_cons_succ]
  refine wpAnyH_take (i := 31) (v := ?_) rfl (by kernel_rfl) (by kernel_rfl) (by kernel_rfl) (fun _ _ _ h => h) (Or.inl ⟨by rfl, ?_⟩) (HSl.out _ z3.out) ?_
  rotate_left
  · intro w hSw; (try dsimp only at hSw); go_simp; try with_reducible rfl
  try simp only [Act.put, List.getElem_toArray, List.getElem_cons_zero, List.getElem_cons_succ, List.setIfInBounds_toArray, List.set_cons_zero, List.set_cons_succ]
  refine wpAnyH_take (i := 32) (v := ?_) rfl (by kernel_rfl) (by kernel_rfl) (by kernel_rfl) (fun _ _ _ h => h) (Or.inl ⟨by rfl, ?_⟩) (HSl.out _ z3.out) ?_
  rotate_left
  · intro w hSw; (try dsimp only at hSw); go_simp; try with_reducible rfl
  try simp only [Act.put, List.getElem_toArray, List.getElem_cons_zero, List.getElem_cons_succ, List.setIfInBounds_toArray, List.set_cons_zero, List.set_cons_succ]
  refine wpAnyH_done (by kernel_rfl) ?_ _
  go_wp2
  go_ret
  exact ⟨rfl, z3.out.2⟩
end Go.Proofs.YtemoginoanhjlaaGreat
end

section
/- The law ExactBounds. -/
set_option linter.unusedVariables false
set_option linter.unusedSimpArgs false
namespace Go.Proofs.YtemoginoanhjlaaGreat
open Go.RowKit
open Alg (Prime)
theorem size_threes : (Tryz.prog.info? 55).map (·.size) = some 12 := by kernel_rfl
set_option maxHeartbeats 8000000 in
set_option maxRecDepth 100000 in
theorem exactBounds_walk (w : World) (Aa : Option Addr) (ca : Nat) (kinda kka ppa : Int) (esa : List Ent) (Ab : Option Addr) (cb : Nat) (kindb kkb ppb : Int) (esb : List Ent) (Ac : Option Addr) (cc : Nat) (kindc kkc ppc : Int) (esc : List Ent) (n c x y : Int) (d : Bool) (hsa : SrcA w Aa ca kinda kka ppa esa) (hsb : SrcA w Ab cb kindb kkb ppb esb) (hsc : SrcA w Ac cc kindc kkc ppc esc) (n0 : -9223372036854775808 ≤ n) (n1 : n ≤ 9223372036854775807) (c0 : -9223372036854775808 ≤ c) (c1 : c ≤ 9223372036854775807) (x0 : 0 ≤ x) (x1 : x ≤ 18446744073709551615) (y0 : 0 ≤ y) (y1 : y ≤ 18446744073709551615) :
    Calls Tryz.prog 7 #[.agg #[.int .i64 kinda, .int .i64 kka, .int .u64 ppa, .slice Aa esa.length ca, .int .i64 kindb, .int .i64 kkb, .int .u64 ppb, .slice Ab esb.length cb, .int .i64 kindc, .int .i64 kkc, .int .u64 ppc, .slice Ac esc.length cc], .int .i64 n, .int .i64 c, .int .u64 x, .int .u64 y, .bool d] w fun e w' => e = .returned (.bool true) ∧ Below w.heap.size w w' := by
  obtain ⟨a, rfl⟩ := Int.eq_ofNat_of_zero_le x0
  obtain ⟨b, rfl⟩ := Int.eq_ofNat_of_zero_le y0
  have ha : a < 18446744073709551616 := by omega
  have hb : b < 18446744073709551616 := by omega
  clear x0 x1 y0 y1
  have HS1 := Lib.hid (fun W => xsize_any n n0 n1 W)
  have HS2 := Lib.hid (fun W => r24size_any n n0 n1 W)
  obtain ⟨m, hm⟩ : ∃ m, m = n.natAbs := ⟨_, rfl⟩
  rw [← hm] at HS1 HS2
  clear hm n0 n1
  have R0 := Lib.hid (lay1 w 55 #[.int .i64 kinda, .int .i64 kka, .int .u64 ppa, .slice Aa esa.length ca, .int .i64 kindb, .int .i64 kkb, .int .u64 ppb, .slice Ab esb.length cb, .int .i64 kindc, .int .i64 kkc, .int .u64 ppc, .slice Ac esc.length cc])
  have HSa := Lib.hid hsa
  have HSb := Lib.hid hsb
  have HSc := Lib.hid hsc
  have hz : ∀ w, (zeroValue 69).run Tryz.prog w = .ok (.agg #[.int .u64 0, .int .u64 0, .int .u64 0]) w := (zero_of_info info_three).1
  have hz3 : ∀ w, (zeroValue 58).run Tryz.prog w = .ok (.agg #[.int .u64 0, .int .u64 0, .int .u64 0]) w := (zero_of_info info_w3).1
  clear hsa hsb hsc
  go_enter Tryz.func7, Tryz.ntmps7
  go_wp2_with fail
  generalize (w.alloc (.cells #[.int .i64 kinda, .int .i64 kka, .int .u64 ppa, .slice Aa esa.length ca, .int .i64 kindb, .int .i64 kkb, .int .u64 ppb, .slice Ab esb.length cb, .int .i64 kindc, .int .i64 kkc, .int .u64 ppc, .slice Ac esc.length cc] 55)) = w1 at *
  refine (alive24_any w1).mono ?_
  rintro e w2 ⟨rfl, hB2⟩
  have R2 : Hid (RowAt w2 w.heap.size 55 #[.int .i64 kinda, .int .i64 kka, .int .u64 ppa, .slice Aa esa.length ca, .int .i64 kindb, .int .i64 kkb, .int .u64 ppb, .slice Ab esb.length cb, .int .i64 kindc, .int .i64 kkc, .int .u64 ppc, .slice Ac esc.length cc] ∧ Below w.heap.size w w2) := Lib.hid ⟨R0.out.1.keep hB2, R0.out.2.trans (hB2.mono R0.out.2.size)⟩
  clear hB2 R0
  go_wp2_with (refine wpList_load_row rfl _ _ rfl _ rfl _ _ _ _ (R2.out.1) Tryz.underlying55 rfl (by exact size_threes) ?_)
  refine (trio_any w2 Aa ca kinda kka ppa esa Ab cb kindb kkb ppb esb Ac cc kindc kkc ppc esc (HSa.out.below R2.out.2) (HSb.out.below R2.out.2) (HSc.out.below R2.out.2)).mono ?_
  rintro e w3 ⟨v, p, q, r, er, ok, rfl, hTR, hB3⟩
  have hl1 := R2.out.2.size
  have hl2 := hB3.size
  have H6 := Lib.hid (RowAt.new w3 58 #[.int .u64 0, .int .u64 0, .int .u64 0])
  have hTR4 : TR (w3.alloc (.cells #[.int .u64 0, .int .u64 0, .int .u64 0] 58)) v p q r er ok := hTR.keep ((Below.refl w3.heap.size w3).alloc (Nat.le_refl _) _)
  have K4 : Hid (RowAt ((w3.alloc (.cells #[.int .u64 0, .int .u64 0, .int .u64 0] 58)).setRow w3.heap.size #[.int .u64 (p : Int), .int .u64 (q : Int), .int .u64 (r : Int)]) w3.heap.size 58 #[.int .u64 (p : Int), .int .u64 (q : Int), .int .u64 (r : Int)] ∧ TR ((w3.alloc (.cells #[.int .u64 0, .int .u64 0, .int .u64 0] 58)).setRow w3.heap.size #[.int .u64 (p : Int), .int .u64 (q : Int), .int .u64 (r : Int)]) v p q r er ok ∧ Below w.heap.size w ((w3.alloc (.cells #[.int .u64 0, .int .u64 0, .int .u64 0] 58)).setRow w3.heap.size #[.int .u64 (p : Int), .int .u64 (q : Int), .int .u64 (r : Int)])) := Lib.hid ⟨H6.out.setRow _, hTR4.setRow (m := 0) H6.out _, below_setRow ((R2.out.2.trans (hB3.mono hl1)).alloc (by omega) _) (by omega) _⟩
  clear hTR hTR4 hB3 R2 HSa HSb HSc
  have KP : Hid (∀ W W', (RowAt W w3.heap.size 58 #[.int .u64 (p : Int), .int .u64 (q : Int), .int .u64 (r : Int)] ∧ TR W v p q r er ok ∧ Below w.heap.size w W) → Below W.heap.size W W' → (RowAt W' w3.heap.size 58 #[.int .u64 (p : Int), .int .u64 (q : Int), .int .u64 (r : Int)] ∧ TR W' v p q r er ok ∧ Below w.heap.size w W')) := Lib.hid (fun W W' h hB => ⟨h.1.keep hB, h.2.1.keep hB, h.2.2.trans (hB.mono h.2.2.size)⟩)
  obtain ⟨hp, hq, hr, ⟨rfl, rfl, hT, hV⟩ | ⟨rfl, rfl, her, hno⟩⟩ := K4.out.2.1
  · have HT := Lib.hid hT
    have hN := hT.lt'.2
    have HF : Hid (∀ W, TrioP W W.heap.size v p q r → Calls Tryz.prog 33 #[v, .int .i64 c, .int .u64 (a : Int), .int .u64 (b : Int), .bool d] W fun e w' => e = .returned (.bool (fitsB (p * q * r) c a b d)) ∧ Below W.heap.size W w') := Lib.hid (fun W h => xfits_yes h hN c c0 c1 a b ha hb d)
    have HG : Hid (∀ k : Nat, k ≤ 1024 → ∀ W, Calls Tryz.prog 34 #[.agg #[.int .u64 (p : Int), .int .u64 (q : Int), .int .u64 (r : Int)], .int .i64 (k : Int), .int .u64 (a : Int), .int .u64 (b : Int), .bool d] W fun e w' => e = .returned (.bool (fitsB (p * q * r) (k : Int) a b d)) ∧ Below W.heap.size W w') := Lib.hid (fun k hk W => r24fits_any p q r k a b hp hq hr hk ha hb d W)
    have HV := Lib.hid hV
    clear hV hT hN ha hb
    go_wp2_with (refine wpList_store_row rfl _ _ _ rfl _ #[.int .u64 (p : Int), .int .u64 (q : Int), .int .u64 (r : Int)] rfl rfl _ _ (H6.out) size_w3 rfl (one3 _ _ _) ?_; generalize hW4 : (w3.alloc (.cells #[.int .u64 0, .int .u64 0, .int .u64 0] 58)).setRow w3.heap.size #[.int .u64 (p : Int), .int .u64 (q : Int), .int .u64 (r : Int)] = w4 at *)
    refine (HS1.out _).mono ?_
    rintro e w5 ⟨rfl, rfl⟩
    go_wp2_with fail
    refine (HS2.out _).mono ?_
    rintro e w5 ⟨rfl, rfl⟩
    go_wp2_with fail
    refine (HF.out _ HV.out).mono ?_
    rintro e w5 ⟨rfl, hB5⟩
    have K5 := Lib.hid (KP.out _ _ K4.out hB5)
    clear hB5 HV K4 KP HT hp hq hr
    by_cases h0 : c < 0
    · have t0 : decide (c < 0) = true := decide_eq_true h0
      rw [fitsB_low (.inl h0)]
      go_wp2
      go_ret
      exact ⟨rfl, K5.out.2.2⟩
    · have t0 : decide (c < 0) = false := decide_eq_false h0
      by_cases h1 : 1024 < c
      · have t1 : decide (c > 1024) = true := decide_eq_true h1
        rw [fitsB_low (.inr h1)]
        go_wp2
        go_ret
        exact ⟨rfl, K5.out.2.2⟩
      · have t1 : decide (c > 1024) = false := decide_eq_false h1
        obtain ⟨k, rfl⟩ := Int.eq_ofNat_of_zero_le (show 0 ≤ c by omega)
        have HG1 := Lib.hid (HG.out k (by omega))
        obtain ⟨fb, hfb⟩ : ∃ fb, fb = fitsB (p * q * r) (k : Int) a b d := ⟨_, rfl⟩
        have tt : (fb == fb) = true := by simp
        clear HG
        rw [← hfb] at HG1 ⊢
        clear hfb h0 h1
        go_wp2_with (refine wpList_load_row rfl _ _ rfl _ rfl _ _ _ _ (K5.out.1) Tryz.underlying58 rfl size_w3 ?_)
        refine (HG1.out _).mono ?_
        rintro e w6 ⟨rfl, hB6⟩
        have HB6 := Lib.hid (K5.out.2.2.trans (hB6.mono K5.out.2.2.size))
        clear hB6 K5
        go_wp2
        go_ret
        exact ⟨by first | rfl | simp, HB6.out⟩
  · clear her hno KP hp hq hr
    go_wp2_with (refine wpList_store_row rfl _ _ _ rfl _ #[.int .u64 (p : Int), .int .u64 (q : Int), .int .u64 (r : Int)] rfl rfl _ _ (H6.out) size_w3 rfl (one3 _ _ _) ?_; generalize hW4 : (w3.alloc (.cells #[.int .u64 0, .int .u64 0, .int .u64 0] 58)).setRow w3.heap.size #[.int .u64 (p : Int), .int .u64 (q : Int), .int .u64 (r : Int)] = w4 at *)
    refine (HS1.out _).mono ?_
    rintro e w5 ⟨rfl, rfl⟩
    go_wp2_with fail
    refine (HS2.out _).mono ?_
    rintro e w5 ⟨rfl, rfl⟩
    go_wp2_with fail
    refine (xfits_nil c _ _ d _).mono ?_
    rintro e w5 ⟨rfl, rfl⟩
    go_wp2
    go_ret
    exact ⟨rfl, K4.out.2.2⟩
end Go.Proofs.YtemoginoanhjlaaGreat
end
