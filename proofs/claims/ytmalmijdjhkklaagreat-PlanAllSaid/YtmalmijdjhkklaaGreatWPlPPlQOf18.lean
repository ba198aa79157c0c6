/- plan.Choose where the length is wrong. -/
import Derived.Test.YtmalmijdjhkklaaGreatPlO
import Derived.Test.YtmalmijdjhkklaaGreatWLimDB01AB01B
import Derived.Deep.RegionHeld
set_option linter.unusedVariables false
set_option linter.unusedSimpArgs false
set_option linter.unusedSectionVars false
section
/- plan.Choose where the length is wrong. -/
set_option linter.unusedVariables false
set_option linter.unusedSimpArgs false
namespace Go.Proofs.YtmalmijdjhkklaaGreat
open Go.RowKit
attribute [local go_sem] Oper.semAt_some
set_option maxHeartbeats 4000000 in
set_option maxRecDepth 100000 in
theorem choose_bad {w : World} {q : Option Addr} (n k c : Int) (hc : c ≠ 0) (hck : ∀ W, Below w.heap.size w W → Calls Tryz.prog 53 #[.pointer q, .int .i64 n] W fun e w' => e = .returned (.int .i64 c) ∧ W = w') :
    Calls Tryz.prog 25 #[.pointer q, .int .i64 n, .int .i64 k] w fun e w' => e = .returned (.tuple #[.agg (cellsP (0, 0, 0)), .int .i64 c]) ∧ Below w.heap.size w w' := by
  have R2 := Lib.hid (lay2 w 34 36 #[.int .i64 k] #[.int .i64 0, .int .i64 0, .int .i64 0])
  have HCk := Lib.hid (hck _ R2.out.2.2)
  have tc : (c != 0) = true := by simpa using hc
  have hF47 : Fence.wide.fn 53 := trivial
  have e47 : ∀ args w, (callFunc 53 args).run Tryz.prog w = .ok (.enter 53 args) w := enters_of Tryz.func53 (by kernel_rfl) rfl
  clear hck hc
  refine (callsIn_wide (n := 4)).1 ?_
  refine callsIn_of_wp_marks Tryz.func25 rfl trivial ?_ rfl
  simp only [Tryz.ntmps25, List.size_toArray, List.length_cons, List.length_nil, Nat.reduceAdd, Nat.reduceSub, Array.replicate_succ, Array.replicate_zero, List.push_toArray, List.append_toArray, List.nil_append, List.cons_append]
  gi_wp2_with (gi_at_call 53; refine (callsIn_wide.2 HCk.out).mono ?_; rintro r w2 ⟨rfl, rfl⟩)
  refine ⟨_, results_row_tmp rfl _ _ _ _ _ _ rfl R2.out.2.1 Tryz.underlying36 rfl (by exact size_plan), rfl, R2.out.2.2⟩
theorem choose_nil (n k : Int) (w : World) : Calls Tryz.prog 25 #[.pointer none, .int .i64 n, .int .i64 k] w fun e w' => e = .returned (.tuple #[.agg (cellsP (0, 0, 0)), .int .i64 2]) ∧ Below w.heap.size w w' :=
  choose_bad n k 2 (by decide) (fun W _ => pcheck_nil n W)
/-- What plan.Choose answers over a field. -/
noncomputable def chP (p n k : Int) : PlT := if chk p n 1024 = 0 then chF k (allL p n) else (0, 0, 0)
noncomputable def chE (p n k : Int) : Int := if chk p n 1024 = 0 then (if chF k (allL p n) = (0, 0, 0) then 11 else 0) else chk p n 1024
theorem choose_any {w : World} {q : Option Addr} {p g : Int} (hFd : Fd w w.heap.size (.pointer q) p g) (n k : Int) (n0 : -9223372036854775808 ≤ n) (n1 : n ≤ 9223372036854775807) :
    Calls Tryz.prog 25 #[.pointer q, .int .i64 n, .int .i64 k] w fun e w' => e = .returned (.tuple #[.agg (cellsP (chP p n k)), .int .i64 (chE p n k)]) ∧ Below w.heap.size w w' := by
  unfold chP chE
  by_cases hc : chk p n 1024 = 0
  · rw [if_pos hc, if_pos hc]
    exact choose_fd hFd n k n0 n1 hc
  · rw [if_neg hc, if_neg hc]
    exact choose_bad n k _ hc (fun W hb => pcheck_fd (hFd.below hb) n n0 n1)
end Go.Proofs.YtmalmijdjhkklaaGreat
end

section
/- The choice at 17, 16. -/
set_option linter.unusedVariables false
set_option linter.unusedSimpArgs false
namespace Go.Proofs.YtmalmijdjhkklaaGreat
open Go.RowKit
theorem rad16 : rad 16 = some [2, 2, 2, 2] := by
  rw [rad_step (r := 2) (by decide) (by decide) (by decide), show 16 / 2 = 8 from rfl, rad_step (r := 2) (by decide) (by decide) (by decide), show 8 / 2 = 4 from rfl, rad_step (r := 2) (by decide) (by decide) (by decide), show 4 / 2 = 2 from rfl,
    rad_step (r := 2) (by decide) (by decide) (by decide), show 2 / 2 = 1 from rfl, rad_one (by decide)]
  rfl
theorem radS16 : radS 16 = 8 := by unfold radS; rw [show (16 : Int).toNat = 16 from rfl, rad16]; rfl
theorem lg16 : lg 16 = 4 := by unfold lg; decide
theorem cost0 : costI 0 16 0 = 256 := by simp [costI, cost1]
theorem cost1_ : costI 1 16 0 = 208 := by simp [costI, cost1, halI, lg16]
theorem cost2 : costI 2 16 0 = 160 := by simp [costI, cost1, lg16]
theorem cost3 : costI 3 16 0 = 272 := by simp [costI, cost1, radS16]
theorem chk16 : chk 17 16 1024 = 0 := by decide
theorem fit_low {K : Int} (h : K < 5) (hc : canB K 16 0 = true) : fitI 17 K 16 0 = 0 := by
  unfold fitI; rw [if_neg (by rw [chk16]; decide), if_neg]
  intro h2
  rcases h2 with h2 | ⟨h2, _⟩
  · rw [hc] at h2; cases h2
  · omega
theorem one_low {K : Int} (h : K < 5) (hc : canB K 16 0 = true) : one 17 K 16 0 = [(K, 16, 0)] := by unfold one; rw [if_pos (fit_low h hc)]
theorem can0 : canB 0 16 0 = true := by rw [canB_in (by decide)]; rfl
theorem can1 : canB 1 16 0 = true := by rw [canB_in (by decide)]; decide
theorem can2 : canB 2 16 0 = true := by rw [canB_in (by decide)]; decide
theorem can3 : canB 3 16 0 = true := by rw [canB_three (by decide)]; unfold radOk; rw [show (16 : Int).toNat = 16 from rfl, rad16]; rfl
theorem no_parts : ((List.range 16).all fun i => !copB 16 (i : Int)) = true := by decide
theorem not_fit {K A : Int} (h : canB K 16 A = false) : fitI 17 K 16 A ≠ 0 := by
  unfold fitI; rw [if_neg (by rw [chk16]; decide), if_pos (.inl h)]; decide
theorem of4_16 : of4 17 16 16 = [] := by
  unfold of4
  rw [List.map_eq_nil_iff, List.filter_eq_nil_iff]
  intro i hi
  have h1 := List.all_eq_true.1 no_parts i hi
  simp only [decide_eq_true_eq, not_and]
  intro _
  refine not_fit ?_
  rw [canB_in (by decide)]
  simp only [show ((4 : Int) = 0) = False by decide, show ((4 : Int) = 1 ∨ (4 : Int) = 2) = False by decide, show ((4 : Int) = 3) = False by decide, if_false, if_true]
  simpa using h1
theorem isP16 : isP 16 = false := isP_false.2 (fun h => by
  have h1 := h.2 2 (by decide)
  simp at h1)
theorem rpad16 : rpad 16 = 0 := by
  unfold rpad
  rw [if_neg]
  rintro ⟨_, _, h⟩
  rw [show (16 : Int).toNat = 16 from rfl, isP16] at h
  cases h
theorem one5 : one 17 5 16 (rpad 16) = [] := by
  unfold one
  rw [if_neg]
  refine not_fit ?_
  rw [canB_in (by decide), rpad16]
  simp
theorem cpad16 : cpad 16 = 32 := by decide
theorem one6 : one 17 6 16 (cpad 16) = [] := by
  unfold one
  rw [if_neg]
  unfold fitI
  rw [if_neg (by rw [chk16]; decide), if_pos (.inr ⟨by decide, by rw [cpad16]; decide⟩)]
  decide
theorem all16 : allL 17 16 = [(0, 16, 0), (1, 16, 0), (2, 16, 0), (3, 16, 0)] := by
  unfold allL
  simp only [upA_succ]
  rw [show upA 17 16 0 = [] from rfl]
  simp only [ofL]
  simp [one_low, can0, can1, can2, can3, of4_16, one5, one6]
theorem ch16 : chP 17 16 (-1) = (2, 16, 0) := by
  unfold chP chF
  rw [if_pos chk16, all16]
  simp [chz, cost0, cost1_, cost2, cost3]
end Go.Proofs.YtmalmijdjhkklaaGreat
end

section
/- Law 18: a plan as the program has it; is it this one? -/
set_option linter.unusedVariables false
set_option linter.unusedSimpArgs false
namespace Go.Proofs.YtmalmijdjhkklaaGreat
open Go.RowKit
theorem of18_any (K N A : Int) (k0 : -9223372036854775808 ≤ K) (k1 : K ≤ 9223372036854775807) (w : World) :
    Calls Tryz.prog 17 #[.agg #[.int .i64 K, .int .i64 N, .int .i64 A]] w fun e w' => e = .returned (.agg #[.int .i64 K, .int .i64 N, .int .i64 A]) ∧ Below w.heap.size w w' := by
  have R1 := Lib.hid (lay2 w 27 36 #[.int .i64 K, .int .i64 N, .int .i64 A] #[.int .i64 K, .int .i64 N, .int .i64 A])
  have hw : IntKind.i64.wrap K = K := IntWalk.i64_in _ (by omega)
  go_enter Tryz.func17, Tryz.ntmps17
  go_wp2
  refine bodyPost_ret (results_cell_row rfl _ _ _ _ _ _ _ rfl (R1.out.2.1) Tryz.underlying36 rfl (by exact size_plan)) (by rfl) ?_
  exact ⟨rfl, R1.out.2.2⟩
set_option maxHeartbeats 2000000 in
set_option maxRecDepth 100000 in
theorem is18_any (K0 N A K' N' A' : Int) (k0 : -9223372036854775808 ≤ K') (k1 : K' ≤ 9223372036854775807) (w : World) :
    Calls Tryz.prog 24 #[.agg #[.int .i64 K0, .int .i64 N, .int .i64 A], .agg #[.int .i64 K', .int .i64 N', .int .i64 A']] w fun e w' => e = .returned (.bool (K0 == K' && N == N' && A == A')) ∧ Below w.heap.size w w' := by
  have HO := Lib.hid (fun W => of18_any K' N' A' k0 k1 W)
  have heq := fun W => eq_plan K0 N A K' N' A' W
  unfold planV at heq
  obtain ⟨b, hb⟩ : ∃ b, b = (K0 == K' && N == N' && A == A') := ⟨_, rfl⟩
  rw [← hb] at heq ⊢
  clear hb
  have R1 := lay2 w 36 27 #[.int .i64 K0, .int .i64 N, .int .i64 A] #[.int .i64 K', .int .i64 N', .int .i64 A']
  have z0 : Hid (RowAt (((w.alloc (.cells #[.int .i64 K0, .int .i64 N, .int .i64 A] 36)).alloc (.cells #[.int .i64 K', .int .i64 N', .int .i64 A'] 27)).drewN 1) w.heap.size 36 #[.int .i64 K0, .int .i64 N, .int .i64 A] ∧ RowAt (((w.alloc (.cells #[.int .i64 K0, .int .i64 N, .int .i64 A] 36)).alloc (.cells #[.int .i64 K', .int .i64 N', .int .i64 A'] 27)).drewN 1) (w.heap.size + 1) 27 #[.int .i64 K', .int .i64 N', .int .i64 A'] ∧ Below w.heap.size w (((w.alloc (.cells #[.int .i64 K0, .int .i64 N, .int .i64 A] 36)).alloc (.cells #[.int .i64 K', .int .i64 N', .int .i64 A'] 27)).drewN 1)) := Lib.hid ⟨R1.1.drewN 1, R1.2.1.drewN 1, below_drewN R1.2.2 1⟩
  clear R1
  go_enter Tryz.func24, Tryz.ntmps24
  go_wp2_with fail
  refine wp_region_held_drew (S := fun wz => RowAt wz w.heap.size 36 #[.int .i64 K0, .int .i64 N, .int .i64 A] ∧ RowAt wz (w.heap.size + 1) 27 #[.int .i64 K', .int .i64 N', .int .i64 A']) (by kernel_rfl) (⟨z0.out.1, z0.out.2.1⟩) (fun hHeld => ?_)
  refine wpAnyH_take (i := 0) rfl (by kernel_rfl) (by kernel_rfl) (by kernel_rfl) (fun _ _ _ h => h) (yieldsIf_load_row (by rfl) _ _ rfl _ rfl _ _ _ (fun wz h => h.1) Tryz.underlying36 rfl (by exact size_plan)) ⟨z0.out.1, z0.out.2.1⟩ ?_
  try simp only [Act.put, List.getElem_toArray, List.getElem_cons_zero, List.getElem_cons_succ, List.setIfInBounds_toArray, List.set_cons_zero, List.set_cons_succ]
  refine wpAnyH_take (i := 1) rfl (by kernel_rfl) (by kernel_rfl) (by kernel_rfl) (fun _ _ _ h => h) (yieldsIf_load_row (by rfl) _ _ rfl _ rfl _ _ _ (fun wz h => h.2) Tryz.underlying27 rfl (by exact size_rplan)) ⟨z0.out.1, z0.out.2.1⟩ ?_
  try simp only [Act.put, List.getElem_toArray, List.getElem_cons_zero, List.getElem_cons_succ, List.setIfInBounds_toArray, List.set_cons_zero, List.set_cons_succ]
  refine wpAnyH_ready (rs := [2]) (by kernel_rfl) (by simp) ?_
  refine AllReadyH.cons rfl (fun K hK => ?_) AllReadyH.nil
  try simp only [List.getElem_toArray, List.getElem_cons_zero, List.getElem_cons_succ]
  rw [if_pos (by rfl)]
  go_wp2_with (go_at_call 17; refine (HO.out _).mono ?_; rintro e w2 ⟨rfl, hB2⟩)
  have z2 : Hid (RowAt w2 w.heap.size 36 #[.int .i64 K0, .int .i64 N, .int .i64 A] ∧ RowAt w2 (w.heap.size + 1) 27 #[.int .i64 K', .int .i64 N', .int .i64 A'] ∧ Below w.heap.size w w2) := Lib.hid ⟨z0.out.1.keep hB2, z0.out.2.1.keep hB2, z0.out.2.2.trans (hB2.mono z0.out.2.2.size)⟩
  clear hB2
  refine hK.out _ _ (⟨z2.out.1, z2.out.2.1⟩) (fun _ => ?_)
  clear hK K
  try simp only [Act.put, List.getElem_toArray, List.getElem_cons_zero, List.getElem_cons_succ, List.setIfInBounds_toArray, List.set_cons_zero, List.set_cons_succ]
  refine wpAnyH_take (i := 3) (v := ?_) rfl (by kernel_rfl) (by kernel_rfl) (by kernel_rfl) (fun _ _ _ h => h) (Or.inl ⟨by rfl, ?_⟩) ⟨z2.out.1, z2.out.2.1⟩ ?_
  rotate_left
  · intro w hSw; (try dsimp only at hSw); go_simp; try with_reducible rfl
  try simp only [Act.put, List.getElem_toArray, List.getElem_cons_zero, List.getElem_cons_succ, List.setIfInBounds_toArray, List.set_cons_zero, List.set_cons_succ]
  refine wpAnyH_take (i := 4) (v := ?_) rfl (by kernel_rfl) (by kernel_rfl) (by kernel_rfl) (fun _ _ _ h => h) (Or.inl ⟨by rfl, ?_⟩) ⟨z2.out.1, z2.out.2.1⟩ ?_
  rotate_left
  · intro w hSw; (try dsimp only at hSw); go_simp; try with_reducible rfl
  try simp only [Act.put, List.getElem_toArray, List.getElem_cons_zero, List.getElem_cons_succ, List.setIfInBounds_toArray, List.set_cons_zero, List.set_cons_succ]
  refine wpAnyH_done (by kernel_rfl) ?_ _
  go_wp2
  go_ret
  exact ⟨rfl, z2.out.2.2⟩
end Go.Proofs.YtmalmijdjhkklaaGreat
end
