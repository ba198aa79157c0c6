/- The law PlanFits. -/
import Derived.Test.YtmalmijdjhkklaaGreatAl18
import Derived.Test.YtmalmijdjhkklaaGreatWPlPPlQOf18
import Derived.Test.YtmalmijdjhkklaaGreatWRef06ToMs18
import Derived.Test.YtmalmijdjhkklaaGreatWOpenOpenPOpenU
import Derived.Test.YtmalmijdjhkklaaGreatWAl5Sm17
set_option linter.unusedVariables false
set_option linter.unusedSimpArgs false
set_option linter.unusedSectionVars false
set_option linter.unusedVariables false
set_option linter.unusedSimpArgs false
namespace Go.Proofs.YtmalmijdjhkklaaGreat
open Go.RowKit
open Alg
theorem size_src : (Tryz.prog.info? 25).map (·.size) = some 4 := by kernel_rfl
set_option maxHeartbeats 8000000 in
set_option maxRecDepth 100000 in
theorem planFits_walk (w : World) (A0 : Option Addr) (c0 : Nat) (kind0 kk0 pp0 : Int) (es0 : List Ent) (K1 N1 M1 : Int) (hs0 : SrcA w A0 c0 kind0 kk0 pp0 es0) (hp1 : PlanA K1 N1 M1) :
    Calls Tryz.prog 3 #[.agg #[.int .i64 kind0, .int .i64 kk0, .int .u64 pp0, .slice A0 es0.length c0], .agg #[.int .i64 K1, .int .i64 N1, .int .i64 M1]] w fun e w' => e = .returned (.bool true) ∧ Below w.heap.size w w' := by
  have R0 : Hid (RowAt ((w.alloc (.cells #[.int .i64 kind0, .int .i64 kk0, .int .u64 pp0, .slice A0 es0.length c0] 25)).alloc (.cells #[.int .i64 K1, .int .i64 N1, .int .i64 M1] 27)) w.heap.size 25 #[.int .i64 kind0, .int .i64 kk0, .int .u64 pp0, .slice A0 es0.length c0] ∧ RowAt ((w.alloc (.cells #[.int .i64 kind0, .int .i64 kk0, .int .u64 pp0, .slice A0 es0.length c0] 25)).alloc (.cells #[.int .i64 K1, .int .i64 N1, .int .i64 M1] 27)) (w.heap.size + 1) 27 #[.int .i64 K1, .int .i64 N1, .int .i64 M1] ∧ Below w.heap.size w ((w.alloc (.cells #[.int .i64 kind0, .int .i64 kk0, .int .u64 pp0, .slice A0 es0.length c0] 25)).alloc (.cells #[.int .i64 K1, .int .i64 N1, .int .i64 M1] 27))) := Lib.hid (lay2 w 25 27 #[.int .i64 kind0, .int .i64 kk0, .int .u64 pp0, .slice A0 es0.length c0] #[.int .i64 K1, .int .i64 N1, .int .i64 M1])
  have HS := Lib.hid hs0
  have HP := Lib.hid hp1
  have HO := Lib.hid (fun W => of18_any K1 N1 M1 hp1.k0 hp1.k1 W)
  have HC1 := Lib.hid (fun W => pcost_any K1 N1 M1 hp1.k0 hp1.k1 hp1.n0 hp1.n1 hp1.a0 hp1.a1 W)
  have HC2 := Lib.hid (fun W => r18cost_any K1 N1 M1 hp1.k0 hp1.k1 hp1.n0 hp1.n1 hp1.a0 hp1.a1 W)
  have HFn := Lib.hid (fun W => pfits_nil K1 N1 M1 W)
  obtain ⟨c, hc⟩ : ∃ c, c = if canB K1 N1 M1 = true then costI K1 N1 M1 else 0 := ⟨_, rfl⟩
  rw [← hc] at HC1 HC2
  have KP : Hid (∀ W W', (RowAt W w.heap.size 25 #[.int .i64 kind0, .int .i64 kk0, .int .u64 pp0, .slice A0 es0.length c0] ∧ RowAt W (w.heap.size + 1) 27 #[.int .i64 K1, .int .i64 N1, .int .i64 M1] ∧ Below w.heap.size w W) → Below W.heap.size W W' → (RowAt W' w.heap.size 25 #[.int .i64 kind0, .int .i64 kk0, .int .u64 pp0, .slice A0 es0.length c0] ∧ RowAt W' (w.heap.size + 1) 27 #[.int .i64 K1, .int .i64 N1, .int .i64 M1] ∧ Below w.heap.size w W')) := Lib.hid (fun W W' h hB => ⟨h.1.keep hB, h.2.1.keep hB, h.2.2.trans (hB.mono h.2.2.size)⟩)
  have tc : (c != c) = false := by simp
  clear hs0 hp1 hc
  go_enter Tryz.func3, Tryz.ntmps3
  go_wp2_with fail
  generalize ((w.alloc (.cells #[.int .i64 kind0, .int .i64 kk0, .int .u64 pp0, .slice A0 es0.length c0] 25)).alloc (.cells #[.int .i64 K1, .int .i64 N1, .int .i64 M1] 27)) = w1 at *
  refine (alive18_any w1).mono ?_
  rintro e w2 ⟨rfl, hB2⟩
  have R2 := Lib.hid (KP.out _ _ R0.out hB2)
  clear hB2 R0
  go_wp2_with (refine wpList_load_row rfl _ _ rfl _ rfl _ _ _ _ (R2.out.1) Tryz.underlying25 rfl (by exact size_src) ?_)
  refine (made_src (HS.out.below R2.out.2.2)).mono ?_
  rintro e w3 ⟨v, p, g, rfl, hM, hB3⟩
  have R3 := Lib.hid (KP.out _ _ R2.out hB3)
  have HM := Lib.hid hM
  clear hB3 R2 hM HS
  go_wp2_with (refine wpList_load_row rfl _ _ rfl _ rfl _ _ _ _ (R3.out.2.1) Tryz.underlying27 rfl (by exact size_rplan) ?_)
  refine (HO.out _).mono ?_
  rintro e w4 ⟨rfl, hB4⟩
  have R4 := Lib.hid (KP.out _ _ R3.out hB4)
  have HM4 := Lib.hid (HM.out.below' hB4)
  clear hB4 R3 HM
  rcases HM4.out with ⟨rfl, rfl, rfl⟩ | ⟨p3, _, hFd⟩
  · clear HM4
    go_wp2_with fail
    refine (HFn.out _).mono ?_
    rintro e w5 ⟨rfl, hB5⟩
    have R5 := Lib.hid (KP.out _ _ R4.out hB5)
    clear hB5 R4
    go_wp2_with fail
    have z0 := Lib.hid (KP.out _ _ R5.out (below_drewN (Below.refl _ _) 1))
    clear R5
    refine wp_region_held_drew (S := fun wz => RowAt wz (w.heap.size + 1) 27 #[.int .i64 K1, .int .i64 N1, .int .i64 M1]) (by kernel_rfl) (z0.out.2.1) (fun hHeld => ?_)
    refine wpAnyH_take (i := 0) rfl (by kernel_rfl) (by kernel_rfl) (by kernel_rfl) (fun _ _ _ h => h) (yieldsIf_load_row (by rfl) _ _ rfl _ rfl _ _ _ (fun wz h => h) Tryz.underlying27 rfl (by exact size_rplan)) z0.out.2.1 ?_
    try simp only [Act.put, List.getElem_toArray, List.getElem_cons_zero, List.getElem_cons_succ, List.setIfInBounds_toArray, List.set_cons_zero, List.set_cons_succ]
    refine wpAnyH_take (i := 3) rfl (by kernel_rfl) (by kernel_rfl) (by kernel_rfl) (fun _ _ _ h => h) (yieldsIf_load_row (by rfl) _ _ rfl _ rfl _ _ _ (fun wz h => h) Tryz.underlying27 rfl (by exact size_rplan)) z0.out.2.1 ?_
    try simp only [Act.put, List.getElem_toArray, List.getElem_cons_zero, List.getElem_cons_succ, List.setIfInBounds_toArray, List.set_cons_zero, List.set_cons_succ]
    refine wpAnyH_ready (rs := [1]) (by kernel_rfl) (by simp) ?_
    refine AllReadyH.cons rfl (fun K hK => ?_) AllReadyH.nil
    try simp only [List.getElem_toArray, List.getElem_cons_zero, List.getElem_cons_succ]
    rw [if_pos (by rfl)]
    go_wp2_with (go_at_call 17; refine (HO.out _).mono ?_; rintro e y1 ⟨rfl, hY⟩)
    have z1 := Lib.hid (KP.out _ _ z0.out hY)
    clear hY
    refine hK.out _ _ (z1.out.2.1) (fun _ => ?_)
    clear hK K
    try simp only [Act.put, List.getElem_toArray, List.getElem_cons_zero, List.getElem_cons_succ, List.setIfInBounds_toArray, List.set_cons_zero, List.set_cons_succ]
    refine wpAnyH_ready (rs := [2]) (by kernel_rfl) (by simp) ?_
    refine AllReadyH.cons rfl (fun K hK => ?_) AllReadyH.nil
    try simp only [List.getElem_toArray, List.getElem_cons_zero, List.getElem_cons_succ]
    rw [if_pos (by rfl)]
    go_wp2_with (go_at_call 18; refine (HC1.out _).mono ?_; rintro e y2 ⟨rfl, hY⟩)
    have z2 := Lib.hid (KP.out _ _ z1.out hY)
    clear hY
    refine hK.out _ _ (z2.out.2.1) (fun _ => ?_)
    clear hK K
    try simp only [Act.put, List.getElem_toArray, List.getElem_cons_zero, List.getElem_cons_succ, List.setIfInBounds_toArray, List.set_cons_zero, List.set_cons_succ]
    refine wpAnyH_ready (rs := [4]) (by kernel_rfl) (by simp) ?_
    refine AllReadyH.cons rfl (fun K hK => ?_) AllReadyH.nil
    try simp only [List.getElem_toArray, List.getElem_cons_zero, List.getElem_cons_succ]
    rw [if_pos (by rfl)]
    go_wp2_with (go_at_call 19; refine (HC2.out _).mono ?_; rintro e y3 ⟨rfl, hY⟩)
    have z3 := Lib.hid (KP.out _ _ z2.out hY)
    clear hY
    refine hK.out _ _ (z3.out.2.1) (fun _ => ?_)
    clear hK K
    try simp only [Act.put, List.getElem_toArray, List.getElem_cons_zero, List.getElem_cons_succ, List.setIfInBounds_toArray, List.set_cons_zero, List.set_cons_succ]
    refine wpAnyH_take (i := 5) (v := ?_) rfl (by kernel_rfl) (by kernel_rfl) (by kernel_rfl) (fun _ _ _ h => h) (Or.inl ⟨by rfl, ?_⟩) z3.out.2.1 ?_
    rotate_left
    · intro w hSw; (try dsimp only at hSw); go_simp; try with_reducible rfl
    try simp only [Act.put, List.getElem_toArray, List.getElem_cons_zero, List.getElem_cons_succ, List.setIfInBounds_toArray, List.set_cons_zero, List.set_cons_succ]
    refine wpAnyH_done (by kernel_rfl) ?_ _
    go_wp2
    go_ret
    exact ⟨rfl, z3.out.2.2⟩
  · have pm := hFd.pmx
    have tp : (p == 0) = false := by simp; omega
    have HF := Lib.hid (pfits_fd hFd K1 N1 M1 HP.out.k0 HP.out.k1 HP.out.n0 HP.out.n1 HP.out.a0 HP.out.a1)
    have HG := Lib.hid (fun W => r18fits_any p K1 N1 M1 p3 pm HP.out.k0 HP.out.k1 HP.out.n0 HP.out.n1 HP.out.a0 HP.out.a1 W)
    obtain ⟨ft, hft⟩ : ∃ ft, ft = fitI p K1 N1 M1 := ⟨_, rfl⟩
    rw [← hft] at HF HG
    have tt : (ft == ft) = true := by simp
    clear HM4 hFd hft
    go_wp2_with fail
    refine HF.out.mono ?_
    rintro e w5 ⟨rfl, hB5⟩
    have R5 := Lib.hid (KP.out _ _ R4.out hB5)
    clear hB5 R4 HF
    go_wp2_with fail
    have z0 := Lib.hid (KP.out _ _ R5.out (below_drewN (Below.refl _ _) 1))
    clear R5
    refine wp_region_held_drew (S := fun wz => RowAt wz (w.heap.size + 1) 27 #[.int .i64 K1, .int .i64 N1, .int .i64 M1]) (by kernel_rfl) (z0.out.2.1) (fun hHeld => ?_)
    refine wpAnyH_take (i := 0) rfl (by kernel_rfl) (by kernel_rfl) (by kernel_rfl) (fun _ _ _ h => h) (yieldsIf_load_row (by rfl) _ _ rfl _ rfl _ _ _ (fun wz h => h) Tryz.underlying27 rfl (by exact size_rplan)) z0.out.2.1 ?_
    try simp only [Act.put, List.getElem_toArray, List.getElem_cons_zero, List.getElem_cons_succ, List.setIfInBounds_toArray, List.set_cons_zero, List.set_cons_succ]
    refine wpAnyH_take (i := 3) rfl (by kernel_rfl) (by kernel_rfl) (by kernel_rfl) (fun _ _ _ h => h) (yieldsIf_load_row (by rfl) _ _ rfl _ rfl _ _ _ (fun wz h => h) Tryz.underlying27 rfl (by exact size_rplan)) z0.out.2.1 ?_
    try simp only [Act.put, List.getElem_toArray, List.getElem_cons_zero, List.getElem_cons_succ, List.setIfInBounds_toArray, List.set_cons_zero, List.set_cons_succ]
    refine wpAnyH_ready (rs := [1]) (by kernel_rfl) (by simp) ?_
    refine AllReadyH.cons rfl (fun K hK => ?_) AllReadyH.nil
    try simp only [List.getElem_toArray, List.getElem_cons_zero, List.getElem_cons_succ]
    rw [if_pos (by rfl)]
    go_wp2_with (go_at_call 17; refine (HO.out _).mono ?_; rintro e y1 ⟨rfl, hY⟩)
    have z1 := Lib.hid (KP.out _ _ z0.out hY)
    clear hY
    refine hK.out _ _ (z1.out.2.1) (fun _ => ?_)
    clear hK K
    try simp only [Act.put, List.getElem_toArray, List.getElem_cons_zero, List.getElem_cons_succ, List.setIfInBounds_toArray, List.set_cons_zero, List.set_cons_succ]
    refine wpAnyH_ready (rs := [2]) (by kernel_rfl) (by simp) ?_
    refine AllReadyH.cons rfl (fun K hK => ?_) AllReadyH.nil
    try simp only [List.getElem_toArray, List.getElem_cons_zero, List.getElem_cons_succ]
    rw [if_pos (by rfl)]
    go_wp2_with (go_at_call 18; refine (HC1.out _).mono ?_; rintro e y2 ⟨rfl, hY⟩)
    have z2 := Lib.hid (KP.out _ _ z1.out hY)
    clear hY
    refine hK.out _ _ (z2.out.2.1) (fun _ => ?_)
    clear hK K
    try simp only [Act.put, List.getElem_toArray, List.getElem_cons_zero, List.getElem_cons_succ, List.setIfInBounds_toArray, List.set_cons_zero, List.set_cons_succ]
    refine wpAnyH_ready (rs := [4]) (by kernel_rfl) (by simp) ?_
    refine AllReadyH.cons rfl (fun K hK => ?_) AllReadyH.nil
    try simp only [List.getElem_toArray, List.getElem_cons_zero, List.getElem_cons_succ]
    rw [if_pos (by rfl)]
    go_wp2_with (go_at_call 19; refine (HC2.out _).mono ?_; rintro e y3 ⟨rfl, hY⟩)
    have z3 := Lib.hid (KP.out _ _ z2.out hY)
    clear hY
    refine hK.out _ _ (z3.out.2.1) (fun _ => ?_)
    clear hK K
    try simp only [Act.put, List.getElem_toArray, List.getElem_cons_zero, List.getElem_cons_succ, List.setIfInBounds_toArray, List.set_cons_zero, List.set_cons_succ]
    refine wpAnyH_take (i := 5) (v := ?_) rfl (by kernel_rfl) (by kernel_rfl) (by kernel_rfl) (fun _ _ _ h => h) (Or.inl ⟨by rfl, ?_⟩) z3.out.2.1 ?_
    rotate_left
    · intro w hSw; (try dsimp only at hSw); go_simp; try with_reducible rfl
    try simp only [Act.put, List.getElem_toArray, List.getElem_cons_zero, List.getElem_cons_succ, List.setIfInBounds_toArray, List.set_cons_zero, List.set_cons_succ]
    refine wpAnyH_done (by kernel_rfl) ?_ _
    go_wp2_with (refine wpList_load_row rfl _ _ rfl _ rfl _ _ _ _ (z3.out.2.1) Tryz.underlying27 rfl (by exact size_rplan) ?_)
    refine (HG.out _).mono ?_
    rintro e y6 ⟨rfl, hY⟩
    have z6 := Lib.hid (KP.out _ _ z3.out hY)
    clear hY
    go_wp2
    go_ret
    exact ⟨by first | rfl | simp, z6.out.2.2⟩
end Go.Proofs.YtmalmijdjhkklaaGreat
