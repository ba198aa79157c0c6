/- garner: Centre; what a nil trio answers. -/
import Derived.Test.YtjjfiidgjiekpaaGreatGarB
set_option linter.unusedVariables false
set_option linter.unusedSimpArgs false
set_option linter.unusedSectionVars false
namespace Go.Proofs.YtjjfiidgjiekpaaGreat
open Go.RowKit
open Alg (Prime)
theorem cmp_le (x y : Nat) : decide (cmpN x y ≤ 0) = decide (x ≤ y) := by
  unfold cmpN
  by_cases h : x < y
  · rw [if_pos h]; simp; omega
  · rw [if_neg h]
    by_cases h2 : y < x
    · rw [if_pos h2]; simp; omega
    · rw [if_neg h2]; simp; omega
set_option maxHeartbeats 2000000 in
set_option maxRecDepth 100000 in
theorem tcentre_yes {w : World} {v : Value} {p q r : Nat} (h : TrioP w w.heap.size v p q r) (x : Nat) (hx : x < 6277101735386680763835789423207666416102355444464034512896) (hn : p * q * r < 6277101735386680763835789423207666416102355444464034512896) :
    Calls Tryz.prog 15 #[v, .agg (three x)] w fun e w' => e = .returned (.agg (three (if x ≤ p * q * r / 2 then x else dif x (p * q * r)))) ∧ Below w.heap.size w w' := by
  have hz := (zero_of_info info_three).1
  have HT := Lib.hid h
  have HPd : Hid (∀ W, Rows2 w W 29 (three x) 29 (three 0) → Calls Tryz.prog 25 #[v] W fun e w' => e = .returned (.agg (three (p * q * r))) ∧ Below W.heap.size W w') := Lib.hid (fun W hW => tprod_yes (HT.out.below hW.2.2) hW.2.2.size)
  obtain ⟨G, va, vb, vc, s, t, g1, g2, g3, rfl, hG, ha, hbb, hc, hr, h1⟩ := h
  clear ha hbb hc h1 HT
  obtain ⟨n, hn'⟩ : ∃ n, n = p * q * r := ⟨_, rfl⟩
  rw [← hn'] at HPd hn hr ⊢
  have HRt : Hid (∀ W, Calls Tryz.prog 57 #[.agg (three n), .int .i64 1] W fun e w' => e = .returned (.agg (three (n / 2))) ∧ Below W.heap.size W w') := Lib.hid (fun W => lright_any n hn W)
  obtain ⟨m, hm⟩ : ∃ m, m = n / 2 := ⟨_, rfl⟩
  rw [← hm] at HRt ⊢
  have HCm : Hid (∀ W, Calls Tryz.prog 56 #[.agg (three x), .agg (three m)] W fun e w' => e = .returned (.int .i64 (cmpN x m)) ∧ Below W.heap.size W w') := Lib.hid (fun W => lcmp_any x m hx (by omega) W)
  have hcm := cmp_le x m
  obtain ⟨k, hk⟩ : ∃ k, k = cmpN x m := ⟨_, rfl⟩
  rw [← hk] at HCm hcm
  have HKp : Hid (∀ W W', Rows2 w W 29 (three x) 29 (three 0) → Below W.heap.size W W' → Rows2 w W' 29 (three x) 29 (three 0)) := Lib.hid (fun W W' h hB => ⟨h.1.keep hB, h.2.1.keep hB, h.2.2.trans (hB.mono h.2.2.size)⟩)
  have HR0 : Hid (Rows2 w (((w.alloc (.cells (three x) 29)).alloc (.cells (three 0) 29)).drewN 1) 29 (three x) 29 (three 0)) := Lib.hid ⟨(Rows2.new w 29 (three x) 29 (three 0)).1, (Rows2.new w 29 (three x) 29 (three 0)).2.1, below_drewN (Rows2.new w 29 (three x) 29 (three 0)).2.2 1⟩
  have HG := Lib.hid hr
  clear hn' hm hx hn hk hr
  by_cases hle : x ≤ m
  · rw [if_pos hle]
    rw [decide_eq_true hle] at hcm
    clear hle
    go_enter Tryz.func15, Tryz.ntmps15
    go_wp2_with fail
    generalize ((w.alloc (.cells (three x) 29)).alloc (.cells (three 0) 29)) = w1 at *
    change (Code.region _ _ true).wp _ _ _ _
    refine wp_region_held_drew (S := fun wz => RowAt wz w.heap.size 29 (three x)) (by kernel_rfl) (HR0.out.1) (fun hHeld => ?_)
    refine wpAnyH_take (i := 0) rfl (by kernel_rfl) (by kernel_rfl) (by kernel_rfl) (fun _ _ _ h => h) (yieldsIf_load_row (by rfl) _ _ rfl _ rfl _ _ _ (fun wz h => h) Tryz.underlying29 rfl size_three) (by first | assumption | exact z4.out.1) ?_
    try simp only [Act.put, List.getElem_toArray, List.getElem_cons_zero, List.getElem_cons_succ, List.setIfInBounds_toArray, List.set_cons_zero, List.set_cons_succ]
    refine wpAnyH_take (i := 1) (v := ?_) rfl (by kernel_rfl) (by kernel_rfl) (by kernel_rfl) (fun _ _ _ h => h) (Or.inl ⟨by rfl, ?_⟩) (by first | assumption | exact z4.out.1) ?_
    rotate_left
    · intro w hSw; (try dsimp only at hSw); go_simp; try with_reducible rfl
    try simp only [Act.put, List.getElem_toArray, List.getElem_cons_zero, List.getElem_cons_succ, List.setIfInBounds_toArray, List.set_cons_zero, List.set_cons_succ]
    refine wpAnyH_ready (rs := [2]) (by kernel_rfl) (by simp) ?_
    refine AllReadyH.cons rfl (fun K hK => ?_) AllReadyH.nil
    try simp only [List.getElem_toArray, List.getElem_cons_zero, List.getElem_cons_succ]
    rw [if_pos (by rfl)]
    go_wp2_with (go_at_call 25; refine (HPd.out _ HR0.out).mono ?_; rintro e y2 ⟨rfl, hY2⟩)
    have z2 := Lib.hid (HKp.out _ _ HR0.out hY2)
    clear hY2
    refine hK.out _ _ (z2.out.1) (fun _ => ?_)
    clear hK K
    try simp only [Act.put, List.getElem_toArray, List.getElem_cons_zero, List.getElem_cons_succ, List.setIfInBounds_toArray, List.set_cons_zero, List.set_cons_succ]
    refine wpAnyH_ready (rs := [3]) (by kernel_rfl) (by simp) ?_
    refine AllReadyH.cons rfl (fun K hK => ?_) AllReadyH.nil
    try simp only [List.getElem_toArray, List.getElem_cons_zero, List.getElem_cons_succ]
    rw [if_pos (by rfl)]
    go_wp2_with (go_at_call 57; refine (HRt.out _).mono ?_; rintro e y3 ⟨rfl, hY3⟩)
    have z3 := Lib.hid (HKp.out _ _ z2.out hY3)
    clear hY3
    refine hK.out _ _ (z3.out.1) (fun _ => ?_)
    clear hK K
    try simp only [Act.put, List.getElem_toArray, List.getElem_cons_zero, List.getElem_cons_succ, List.setIfInBounds_toArray, List.set_cons_zero, List.set_cons_succ]
    refine wpAnyH_ready (rs := [4]) (by kernel_rfl) (by simp) ?_
    refine AllReadyH.cons rfl (fun K hK => ?_) AllReadyH.nil
    try simp only [List.getElem_toArray, List.getElem_cons_zero, List.getElem_cons_succ]
    rw [if_pos (by rfl)]
    go_wp2_with (go_at_call 56; refine (HCm.out _).mono ?_; rintro e y4 ⟨rfl, hY4⟩)
    have z4 := Lib.hid (HKp.out _ _ z3.out hY4)
    clear hY4
    refine hK.out _ _ (z4.out.1) (fun _ => ?_)
    clear hK K
    try simp only [Act.put, List.getElem_toArray, List.getElem_cons_zero, List.getElem_cons_succ, List.setIfInBounds_toArray, List.set_cons_zero, List.set_cons_succ]
    refine wpAnyH_take (i := 5) (v := ?_) rfl (by kernel_rfl) (by kernel_rfl) (by kernel_rfl) (fun _ _ _ h => h) (Or.inl ⟨by rfl, ?_⟩) (by first | assumption | exact z4.out.1) ?_
    rotate_left
    · intro w hSw; (try dsimp only at hSw); go_simp; try with_reducible rfl
    try simp only [Act.put, List.getElem_toArray, List.getElem_cons_zero, List.getElem_cons_succ, List.setIfInBounds_toArray, List.set_cons_zero, List.set_cons_succ]
    refine wpAnyH_take (i := 6) (v := ?_) rfl (by kernel_rfl) (by kernel_rfl) (by kernel_rfl) (fun _ _ _ h => h) (Or.inl ⟨by rfl, ?_⟩) (by first | assumption | exact z4.out.1) ?_
    rotate_left
    · intro w hSw; (try dsimp only at hSw); go_simp; try with_reducible rfl
    try simp only [Act.put, List.getElem_toArray, List.getElem_cons_zero, List.getElem_cons_succ, List.setIfInBounds_toArray, List.set_cons_zero, List.set_cons_succ]
    refine wpAnyH_take (i := 7) (v := undef) rfl (by kernel_rfl) (by kernel_rfl) (by kernel_rfl) (fun _ _ _ h => h) (Or.inr ⟨by rfl, rfl⟩) z4.out.1 ?_
    try simp only [Act.put, List.getElem_toArray, List.getElem_cons_zero, List.getElem_cons_succ, List.setIfInBounds_toArray, List.set_cons_zero, List.set_cons_succ]
    refine wpAnyH_take (i := 8) (v := undef) rfl (by kernel_rfl) (by kernel_rfl) (by kernel_rfl) (fun _ _ _ h => h) (Or.inr ⟨by rfl, rfl⟩) z4.out.1 ?_
    try simp only [Act.put, List.getElem_toArray, List.getElem_cons_zero, List.getElem_cons_succ, List.setIfInBounds_toArray, List.set_cons_zero, List.set_cons_succ]
    refine wpAnyH_take (i := 9) (v := ?_) rfl (by kernel_rfl) (by kernel_rfl) (by kernel_rfl) (fun _ _ _ h => h) (Or.inl ⟨by rfl, ?_⟩) (by first | assumption | exact z4.out.1) ?_
    rotate_left
    · intro w hSw; (try dsimp only at hSw); go_simp; try with_reducible rfl
    try simp only [Act.put, List.getElem_toArray, List.getElem_cons_zero, List.getElem_cons_succ, List.setIfInBounds_toArray, List.set_cons_zero, List.set_cons_succ]
    refine wpAnyH_done (by kernel_rfl) ?_ _
    go_wp2_with (first | (refine wpList_load_row rfl _ _ rfl _ rfl _ _ _ _ (z4.out.1) Tryz.underlying29 rfl size_three ?_) | (refine wpList_store_row rfl _ _ _ rfl _ _ rfl rfl _ _ (z4.out.2.1) size_three rfl (three_one _) ?_))
    refine bodyPost_ret (results_cell_row rfl _ _ _ _ _ _ _ rfl (z4.out.2.1.setRow _) Tryz.underlying29 rfl size_three) (by rfl) ?_
    exact ⟨rfl, below_setRow z4.out.2.2 (by omega) _⟩
  · rw [if_neg hle]
    rw [decide_eq_false hle] at hcm
    clear hle
    obtain ⟨d, hd⟩ : ∃ d, d = dif x n := ⟨_, rfl⟩
    have HSb : Hid (∀ W, Calls Tryz.prog 58 #[.agg (three x), .agg (tl n).toArray] W fun e w' => ∃ bo, e = .returned (.tuple #[.agg (three d), .bool bo]) ∧ Below W.heap.size W w') := Lib.hid (fun W => by
      rw [hd]; exact (lsub_any x n W).mono fun e w' h => ⟨_, h⟩)
    rw [← hd]
    clear hd
    go_enter Tryz.func15, Tryz.ntmps15
    go_wp2_with fail
    generalize ((w.alloc (.cells (three x) 29)).alloc (.cells (three 0) 29)) = w1 at *
    change (Code.region _ _ true).wp _ _ _ _
    refine wp_region_held_drew (S := fun wz => RowAt wz w.heap.size 29 (three x)) (by kernel_rfl) (HR0.out.1) (fun hHeld => ?_)
    refine wpAnyH_take (i := 0) rfl (by kernel_rfl) (by kernel_rfl) (by kernel_rfl) (fun _ _ _ h => h) (yieldsIf_load_row (by rfl) _ _ rfl _ rfl _ _ _ (fun wz h => h) Tryz.underlying29 rfl size_three) (by first | assumption | exact z4.out.1) ?_
    try simp only [Act.put, List.getElem_toArray, List.getElem_cons_zero, List.getElem_cons_succ, List.setIfInBounds_toArray, List.set_cons_zero, List.set_cons_succ]
    refine wpAnyH_take (i := 1) (v := ?_) rfl (by kernel_rfl) (by kernel_rfl) (by kernel_rfl) (fun _ _ _ h => h) (Or.inl ⟨by rfl, ?_⟩) (by first | assumption | exact z4.out.1) ?_
    rotate_left
    · intro w hSw; (try dsimp only at hSw); go_simp; try with_reducible rfl
    try simp only [Act.put, List.getElem_toArray, List.getElem_cons_zero, List.getElem_cons_succ, List.setIfInBounds_toArray, List.set_cons_zero, List.set_cons_succ]
    refine wpAnyH_ready (rs := [2]) (by kernel_rfl) (by simp) ?_
    refine AllReadyH.cons rfl (fun K hK => ?_) AllReadyH.nil
    try simp only [List.getElem_toArray, List.getElem_cons_zero, List.getElem_cons_succ]
    rw [if_pos (by rfl)]
    go_wp2_with (go_at_call 25; refine (HPd.out _ HR0.out).mono ?_; rintro e y2 ⟨rfl, hY2⟩)
    have z2 := Lib.hid (HKp.out _ _ HR0.out hY2)
    clear hY2
    refine hK.out _ _ (z2.out.1) (fun _ => ?_)
    clear hK K
    try simp only [Act.put, List.getElem_toArray, List.getElem_cons_zero, List.getElem_cons_succ, List.setIfInBounds_toArray, List.set_cons_zero, List.set_cons_succ]
    refine wpAnyH_ready (rs := [3]) (by kernel_rfl) (by simp) ?_
    refine AllReadyH.cons rfl (fun K hK => ?_) AllReadyH.nil
    try simp only [List.getElem_toArray, List.getElem_cons_zero, List.getElem_cons_succ]
    rw [if_pos (by rfl)]
    go_wp2_with (go_at_call 57; refine (HRt.out _).mono ?_; rintro e y3 ⟨rfl, hY3⟩)
    have z3 := Lib.hid (HKp.out _ _ z2.out hY3)
    clear hY3
    refine hK.out _ _ (z3.out.1) (fun _ => ?_)
    clear hK K
    try simp only [Act.put, List.getElem_toArray, List.getElem_cons_zero, List.getElem_cons_succ, List.setIfInBounds_toArray, List.set_cons_zero, List.set_cons_succ]
    refine wpAnyH_ready (rs := [4]) (by kernel_rfl) (by simp) ?_
    refine AllReadyH.cons rfl (fun K hK => ?_) AllReadyH.nil
    try simp only [List.getElem_toArray, List.getElem_cons_zero, List.getElem_cons_succ]
    rw [if_pos (by rfl)]
    go_wp2_with (go_at_call 56; refine (HCm.out _).mono ?_; rintro e y4 ⟨rfl, hY4⟩)
    have z4 := Lib.hid (HKp.out _ _ z3.out hY4)
    clear hY4
    refine hK.out _ _ (z4.out.1) (fun _ => ?_)
    clear hK K
    try simp only [Act.put, List.getElem_toArray, List.getElem_cons_zero, List.getElem_cons_succ, List.setIfInBounds_toArray, List.set_cons_zero, List.set_cons_succ]
    refine wpAnyH_take (i := 5) (v := ?_) rfl (by kernel_rfl) (by kernel_rfl) (by kernel_rfl) (fun _ _ _ h => h) (Or.inl ⟨by rfl, ?_⟩) (by first | assumption | exact z4.out.1) ?_
    rotate_left
    · intro w hSw; (try dsimp only at hSw); go_simp; try with_reducible rfl
    try simp only [Act.put, List.getElem_toArray, List.getElem_cons_zero, List.getElem_cons_succ, List.setIfInBounds_toArray, List.set_cons_zero, List.set_cons_succ]
    refine wpAnyH_take (i := 6) (v := ?_) rfl (by kernel_rfl) (by kernel_rfl) (by kernel_rfl) (fun _ _ _ h => h) (Or.inl ⟨by rfl, ?_⟩) (by first | assumption | exact z4.out.1) ?_
    rotate_left
    · intro w hSw; (try dsimp only at hSw); go_simp; try with_reducible rfl
    try simp only [Act.put, List.getElem_toArray, List.getElem_cons_zero, List.getElem_cons_succ, List.setIfInBounds_toArray, List.set_cons_zero, List.set_cons_succ]
    refine wpAnyH_take (i := 7) (v := ?_) rfl (by kernel_rfl) (by kernel_rfl) (by kernel_rfl) (fun _ _ _ h => h) (Or.inl ⟨by rfl, ?_⟩) (by first | assumption | exact z4.out.1) ?_
    rotate_left
    · intro w hSw; (try dsimp only at hSw); go_simp; try with_reducible rfl
    try simp only [Act.put, List.getElem_toArray, List.getElem_cons_zero, List.getElem_cons_succ, List.setIfInBounds_toArray, List.set_cons_zero, List.set_cons_succ]
    refine wpAnyH_take (i := 8) (v := ?_) rfl (by kernel_rfl) (by kernel_rfl) (by kernel_rfl) (fun _ _ _ h => h) (Or.inl ⟨by rfl, ?_⟩) (by first | assumption | exact z4.out.1) ?_
    rotate_left
    · intro w hSw; (try dsimp only at hSw); go_simp; try with_reducible rfl
    try simp only [Act.put, List.getElem_toArray, List.getElem_cons_zero, List.getElem_cons_succ, List.setIfInBounds_toArray, List.set_cons_zero, List.set_cons_succ]
    refine wpAnyH_take (i := 9) (v := ?_) rfl (by kernel_rfl) (by kernel_rfl) (by kernel_rfl) (fun _ _ _ h => h) (Or.inl ⟨by rfl, ?_⟩) (by first | assumption | exact z4.out.1) ?_
    rotate_left
    · intro w hSw; (try dsimp only at hSw); go_simp; try with_reducible rfl
    try simp only [Act.put, List.getElem_toArray, List.getElem_cons_zero, List.getElem_cons_succ, List.setIfInBounds_toArray, List.set_cons_zero, List.set_cons_succ]
    refine wpAnyH_done (by kernel_rfl) ?_ _
    go_wp2_with fail
    have HG4 : Hid (RowAt (y4.drewN 1) G 99 (trow va vb vc s t (p * q) n)) := Lib.hid ((HG.out.below z4.out.2.2 hG).drewN 1)
    change (Code.region _ _ true).wp _ _ _ _
    have Z4 : Hid (Rows2 w (y4.drewN 1) 29 (three x) 29 (three 0) ∧ RowAt (y4.drewN 1) G 99 (trow va vb vc s t (p * q) n)) := Lib.hid ⟨⟨z4.out.1, z4.out.2.1, below_drewN z4.out.2.2 1⟩, HG4.out⟩
    refine wp_region_held_drew (S := fun wz => RowAt wz w.heap.size 29 (three x) ∧ wz.rangeAt G 8 (tl n)) (by kernel_rfl) (⟨z4.out.1, HG4.out.prod⟩) (fun hHeld => ?_)
    refine wpAnyH_take (i := 0) rfl (by kernel_rfl) (by kernel_rfl) (by kernel_rfl) (fun _ _ _ h => h) (yieldsIf_load_row (by rfl) _ _ rfl _ rfl _ _ _ (fun wz h => h.1) Tryz.underlying29 rfl size_three) (by assumption) ?_
    try simp only [Act.put, List.getElem_toArray, List.getElem_cons_zero, List.getElem_cons_succ, List.setIfInBounds_toArray, List.set_cons_zero, List.set_cons_succ]
    refine wpAnyH_take (i := 1) (v := ?_) rfl (by kernel_rfl) (by kernel_rfl) (by kernel_rfl) (fun _ _ _ h => h) (Or.inl ⟨by rfl, ?_⟩) (by assumption) ?_
    rotate_left
    · intro w hSw; (try dsimp only at hSw); go_simp; try with_reducible rfl
    try simp only [Act.put, List.getElem_toArray, List.getElem_cons_zero, List.getElem_cons_succ, List.setIfInBounds_toArray, List.set_cons_zero, List.set_cons_succ]
    refine wpAnyH_take (i := 2) (v := ?_) rfl (by kernel_rfl) (by kernel_rfl) (by kernel_rfl) (fun _ _ _ h => h) (Or.inl ⟨by rfl, ?_⟩) (by assumption) ?_
    rotate_left
    · intro w hSw; (try dsimp only at hSw); go_simp; try with_reducible rfl
    try simp only [Act.put, List.getElem_toArray, List.getElem_cons_zero, List.getElem_cons_succ, List.setIfInBounds_toArray, List.set_cons_zero, List.set_cons_succ]
    refine wpAnyH_take (i := 3) (v := ?_) rfl (by kernel_rfl) (by kernel_rfl) (by kernel_rfl) (fun _ _ _ h => h) (Or.inl ⟨by rfl, ?_⟩) (by assumption) ?_
    rotate_left
    · intro w hSw; (try dsimp only at hSw); go_simp; try with_reducible rfl
    try simp only [Act.put, List.getElem_toArray, List.getElem_cons_zero, List.getElem_cons_succ, List.setIfInBounds_toArray, List.set_cons_zero, List.set_cons_succ]
    refine wpAnyH_take (i := 4) rfl (by kernel_rfl) (by kernel_rfl) (by kernel_rfl) (fun _ _ _ h => h) (yieldsIf_load_mid (by rfl) _ _ rfl _ _ rfl _ _ (fun wz h => h.2) Tryz.underlying29 rfl (by exact size_three)) (by assumption) ?_
    try simp only [Act.put, List.getElem_toArray, List.getElem_cons_zero, List.getElem_cons_succ, List.setIfInBounds_toArray, List.set_cons_zero, List.set_cons_succ]
    refine wpAnyH_ready (rs := [5, 9]) (by kernel_rfl) (by simp) ?_
    refine AllReadyH.cons rfl (fun K hK => ?_) ?_
    · try simp only [List.getElem_toArray, List.getElem_cons_zero, List.getElem_cons_succ]
      rw [if_pos (by rfl)]
      go_wp2_with (go_at_call 58; refine (HSb.out _).mono ?_; rintro e y5 ⟨bo, rfl, hY5⟩)
      have z5 : Hid (Rows2 w y5 29 (three x) 29 (three 0) ∧ RowAt y5 G 99 (trow va vb vc s t (p * q) n)) := Lib.hid ⟨⟨Z4.out.1.1.keep hY5, Z4.out.1.2.1.keep hY5, Z4.out.1.2.2.trans (hY5.mono Z4.out.1.2.2.size)⟩, Z4.out.2.keep hY5⟩
      clear hY5
      refine hK.out _ _ (⟨z5.out.1.1, z5.out.2.prod⟩) (fun _ => ?_)
      clear hK K
      try simp only [Act.put, List.getElem_toArray, List.getElem_cons_zero, List.getElem_cons_succ, List.setIfInBounds_toArray, List.set_cons_zero, List.set_cons_succ]
      refine wpAnyH_take (i := 6) (v := ?_) rfl (by kernel_rfl) (by kernel_rfl) (by kernel_rfl) (fun _ _ _ h => h) (Or.inl ⟨by rfl, ?_⟩) ⟨z5.out.1.1, z5.out.2.prod⟩ ?_
      rotate_left
      · intro w hSw; (try dsimp only at hSw); go_simp; try with_reducible rfl
      try simp only [Act.put, List.getElem_toArray, List.getElem_cons_zero, List.getElem_cons_succ, List.setIfInBounds_toArray, List.set_cons_zero, List.set_cons_succ]
      refine wpAnyH_take (i := 7) (v := ?_) rfl (by kernel_rfl) (by kernel_rfl) (by kernel_rfl) (fun _ _ _ h => h) (Or.inl ⟨by rfl, ?_⟩) ⟨z5.out.1.1, z5.out.2.prod⟩ ?_
      rotate_left
      · intro w hSw; (try dsimp only at hSw); go_simp; try with_reducible rfl
      try simp only [Act.put, List.getElem_toArray, List.getElem_cons_zero, List.getElem_cons_succ, List.setIfInBounds_toArray, List.set_cons_zero, List.set_cons_succ]
      refine wpAnyH_take (i := 8) (v := ?_) rfl (by kernel_rfl) (by kernel_rfl) (by kernel_rfl) (fun _ _ _ h => h) (Or.inl ⟨by rfl, ?_⟩) ⟨z5.out.1.1, z5.out.2.prod⟩ ?_
      rotate_left
      · intro w hSw; (try dsimp only at hSw); go_simp; try with_reducible rfl
      try simp only [Act.put, List.getElem_toArray, List.getElem_cons_zero, List.getElem_cons_succ, List.setIfInBounds_toArray, List.set_cons_zero, List.set_cons_succ]
      refine wpAnyH_ready (rs := [9]) (by kernel_rfl) (by simp) ?_
      refine AllReadyH.cons rfl (fun K hK => ?_) AllReadyH.nil
      try simp only [List.getElem_toArray, List.getElem_cons_zero, List.getElem_cons_succ]
      rw [if_pos (by rfl)]
      go_wp2_with fail
      have z9 : Hid (Rows2 w (y5.alloc (.cells (three 0) 29)) 29 (three x) 29 (three 0) ∧ RowAt (y5.alloc (.cells (three 0) 29)) G 99 (trow va vb vc s t (p * q) n)) := Lib.hid ⟨⟨z5.out.1.1.alloc _, z5.out.1.2.1.alloc _, z5.out.1.2.2.alloc z5.out.1.2.2.size _⟩, z5.out.2.alloc _⟩
      have n9 := Lib.hid (RowAt.new y5 29 (three 0))
      have hx5 : w.heap.size ≠ y5.heap.size := by have := z5.out.1.1.lt; omega
      have hx6 : w.heap.size + 1 ≠ y5.heap.size := by have := z5.out.1.2.1.lt; omega
      have hx7 : G ≠ y5.heap.size := by have := z5.out.2.lt; omega
      have hx8 : w.heap.size ≤ y5.heap.size := z5.out.1.2.2.size
      refine hK.out _ _ (⟨z9.out.1.1, z9.out.2.prod⟩) (fun _ => ?_)
      clear hK K
      try simp only [Act.put, List.getElem_toArray, List.getElem_cons_zero, List.getElem_cons_succ, List.setIfInBounds_toArray, List.set_cons_zero, List.set_cons_succ]
      refine wpAnyH_ready (rs := [10]) (by kernel_rfl) (by simp) ?_
      refine AllReadyH.cons rfl (fun K hK => ?_) AllReadyH.nil
      try simp only [List.getElem_toArray, List.getElem_cons_zero, List.getElem_cons_succ]
      rw [if_pos (by rfl)]
      refine wp_store_row _ _ _ rfl _ _ rfl rfl _ _ (n9.out) size_three rfl (three_one _) ?_
      have z10 : Hid (Rows2 w ((y5.alloc (.cells (three 0) 29)).setRow y5.heap.size (three d)) 29 (three x) 29 (three 0) ∧ RowAt ((y5.alloc (.cells (three 0) 29)).setRow y5.heap.size (three d)) G 99 (trow va vb vc s t (p * q) n)) := Lib.hid ⟨⟨z9.out.1.1.setRowOther _ _ hx5, z9.out.1.2.1.setRowOther _ _ hx6, below_setRow z9.out.1.2.2 hx8 _⟩, z9.out.2.setRowOther _ _ hx7⟩
      have n10 := Lib.hid (n9.out.setRow (three d))
      refine hK.out _ _ (⟨z10.out.1.1, z10.out.2.prod⟩) (fun _ => ?_)
      clear hK K
      try simp only [Act.put, List.getElem_toArray, List.getElem_cons_zero, List.getElem_cons_succ, List.setIfInBounds_toArray, List.set_cons_zero, List.set_cons_succ]
      refine wpAnyH_ready (rs := [11]) (by kernel_rfl) (by simp) ?_
      refine AllReadyH.cons rfl (fun K hK => ?_) AllReadyH.nil
      try simp only [List.getElem_toArray, List.getElem_cons_zero, List.getElem_cons_succ]
      rw [if_pos (by rfl)]
      go_wp2_with fail
      refine hK.out _ _ (⟨z10.out.1.1, z10.out.2.prod⟩) (fun _ => ?_)
      clear hK K
      try simp only [Act.put, List.getElem_toArray, List.getElem_cons_zero, List.getElem_cons_succ, List.setIfInBounds_toArray, List.set_cons_zero, List.set_cons_succ]
      refine wpAnyH_done (by kernel_rfl) ?_ _
      go_wp2_with (first | (refine wpList_load_row rfl _ _ rfl _ rfl _ _ _ _ (n10.out) Tryz.underlying29 rfl size_three ?_) | (refine wpList_store_row rfl _ _ _ rfl _ _ rfl rfl _ _ (z10.out.1.2.1) size_three rfl (three_one _) ?_))
      refine bodyPost_ret (results_cell_row rfl _ _ _ _ _ _ _ rfl (z10.out.1.2.1.setRow _) Tryz.underlying29 rfl size_three) (by rfl) ?_
      exact ⟨rfl, below_setRow z10.out.1.2.2 (by omega) _⟩
    · refine AllReadyH.cons rfl (fun K hK => ?_) AllReadyH.nil
      try simp only [List.getElem_toArray, List.getElem_cons_zero, List.getElem_cons_succ]
      rw [if_pos (by rfl)]
      go_wp2_with fail
      have z8 : Hid (Rows2 w ((y4.drewN 1).alloc (.cells (three 0) 29)) 29 (three x) 29 (three 0) ∧ RowAt ((y4.drewN 1).alloc (.cells (three 0) 29)) G 99 (trow va vb vc s t (p * q) n)) := Lib.hid ⟨⟨Z4.out.1.1.alloc _, Z4.out.1.2.1.alloc _, Z4.out.1.2.2.alloc Z4.out.1.2.2.size _⟩, Z4.out.2.alloc _⟩
      have n8 := Lib.hid (RowAt.new (y4.drewN 1) 29 (three 0))
      have hx5 : w.heap.size ≠ (y4.drewN 1).heap.size := by have := Z4.out.1.1.lt; omega
      have hx6 : w.heap.size + 1 ≠ (y4.drewN 1).heap.size := by have := Z4.out.1.2.1.lt; omega
      have hx7 : G ≠ (y4.drewN 1).heap.size := by have := Z4.out.2.lt; omega
      have hx8 : w.heap.size ≤ (y4.drewN 1).heap.size := Z4.out.1.2.2.size
      refine hK.out _ _ (⟨z8.out.1.1, z8.out.2.prod⟩) (fun _ => ?_)
      clear hK K
      try simp only [Act.put, List.getElem_toArray, List.getElem_cons_zero, List.getElem_cons_succ, List.setIfInBounds_toArray, List.set_cons_zero, List.set_cons_succ]
      refine wpAnyH_ready (rs := [5]) (by kernel_rfl) (by simp) ?_
      refine AllReadyH.cons rfl (fun K hK => ?_) AllReadyH.nil
      try simp only [List.getElem_toArray, List.getElem_cons_zero, List.getElem_cons_succ]
      rw [if_pos (by rfl)]
      go_wp2_with (go_at_call 58; refine (HSb.out _).mono ?_; rintro e y5 ⟨bo, rfl, hY5⟩)
      have z5 : Hid (Rows2 w y5 29 (three x) 29 (three 0) ∧ RowAt y5 G 99 (trow va vb vc s t (p * q) n)) := Lib.hid ⟨⟨z8.out.1.1.keep hY5, z8.out.1.2.1.keep hY5, z8.out.1.2.2.trans (hY5.mono z8.out.1.2.2.size)⟩, z8.out.2.keep hY5⟩
      have n9 := Lib.hid (n8.out.keep hY5)
      have z9 := z5
      clear hY5
      refine hK.out _ _ (⟨z5.out.1.1, z5.out.2.prod⟩) (fun _ => ?_)
      clear hK K
      try simp only [Act.put, List.getElem_toArray, List.getElem_cons_zero, List.getElem_cons_succ, List.setIfInBounds_toArray, List.set_cons_zero, List.set_cons_succ]
      refine wpAnyH_take (i := 6) (v := ?_) rfl (by kernel_rfl) (by kernel_rfl) (by kernel_rfl) (fun _ _ _ h => h) (Or.inl ⟨by rfl, ?_⟩) ⟨z5.out.1.1, z5.out.2.prod⟩ ?_
      rotate_left
      · intro w hSw; (try dsimp only at hSw); go_simp; try with_reducible rfl
      try simp only [Act.put, List.getElem_toArray, List.getElem_cons_zero, List.getElem_cons_succ, List.setIfInBounds_toArray, List.set_cons_zero, List.set_cons_succ]
      refine wpAnyH_take (i := 7) (v := ?_) rfl (by kernel_rfl) (by kernel_rfl) (by kernel_rfl) (fun _ _ _ h => h) (Or.inl ⟨by rfl, ?_⟩) ⟨z5.out.1.1, z5.out.2.prod⟩ ?_
      rotate_left
      · intro w hSw; (try dsimp only at hSw); go_simp; try with_reducible rfl
      try simp only [Act.put, List.getElem_toArray, List.getElem_cons_zero, List.getElem_cons_succ, List.setIfInBounds_toArray, List.set_cons_zero, List.set_cons_succ]
      refine wpAnyH_take (i := 8) (v := ?_) rfl (by kernel_rfl) (by kernel_rfl) (by kernel_rfl) (fun _ _ _ h => h) (Or.inl ⟨by rfl, ?_⟩) ⟨z5.out.1.1, z5.out.2.prod⟩ ?_
      rotate_left
      · intro w hSw; (try dsimp only at hSw); go_simp; try with_reducible rfl
      try simp only [Act.put, List.getElem_toArray, List.getElem_cons_zero, List.getElem_cons_succ, List.setIfInBounds_toArray, List.set_cons_zero, List.set_cons_succ]
      refine wpAnyH_ready (rs := [10]) (by kernel_rfl) (by simp) ?_
      refine AllReadyH.cons rfl (fun K hK => ?_) AllReadyH.nil
      try simp only [List.getElem_toArray, List.getElem_cons_zero, List.getElem_cons_succ]
      rw [if_pos (by rfl)]
      refine wp_store_row _ _ _ rfl _ _ rfl rfl _ _ (n9.out) size_three rfl (three_one _) ?_
      have z10 : Hid (Rows2 w ((y5).setRow (y4.drewN 1).heap.size (three d)) 29 (three x) 29 (three 0) ∧ RowAt ((y5).setRow (y4.drewN 1).heap.size (three d)) G 99 (trow va vb vc s t (p * q) n)) := Lib.hid ⟨⟨z9.out.1.1.setRowOther _ _ hx5, z9.out.1.2.1.setRowOther _ _ hx6, below_setRow z9.out.1.2.2 hx8 _⟩, z9.out.2.setRowOther _ _ hx7⟩
      have n10 := Lib.hid (n9.out.setRow (three d))
      refine hK.out _ _ (⟨z10.out.1.1, z10.out.2.prod⟩) (fun _ => ?_)
      clear hK K
      try simp only [Act.put, List.getElem_toArray, List.getElem_cons_zero, List.getElem_cons_succ, List.setIfInBounds_toArray, List.set_cons_zero, List.set_cons_succ]
      refine wpAnyH_ready (rs := [11]) (by kernel_rfl) (by simp) ?_
      refine AllReadyH.cons rfl (fun K hK => ?_) AllReadyH.nil
      try simp only [List.getElem_toArray, List.getElem_cons_zero, List.getElem_cons_succ]
      rw [if_pos (by rfl)]
      go_wp2_with fail
      refine hK.out _ _ (⟨z10.out.1.1, z10.out.2.prod⟩) (fun _ => ?_)
      clear hK K
      try simp only [Act.put, List.getElem_toArray, List.getElem_cons_zero, List.getElem_cons_succ, List.setIfInBounds_toArray, List.set_cons_zero, List.set_cons_succ]
      refine wpAnyH_done (by kernel_rfl) ?_ _
      go_wp2_with (first | (refine wpList_load_row rfl _ _ rfl _ rfl _ _ _ _ (n10.out) Tryz.underlying29 rfl size_three ?_) | (refine wpList_store_row rfl _ _ _ rfl _ _ rfl rfl _ _ (z10.out.1.2.1) size_three rfl (three_one _) ?_))
      refine bodyPost_ret (results_cell_row rfl _ _ _ _ _ _ _ rfl (z10.out.1.2.1.setRow _) Tryz.underlying29 rfl size_three) (by rfl) ?_
      exact ⟨rfl, below_setRow z10.out.1.2.2 (by omega) _⟩
set_option maxHeartbeats 2000000 in
set_option maxRecDepth 100000 in
theorem tcentre_nil (x : Nat) (hx : x < 6277101735386680763835789423207666416102355444464034512896) (w : World) :
    Calls Tryz.prog 15 #[.pointer none, .agg (three x)] w fun e w' => e = .returned (.agg (three x)) ∧ Below w.heap.size w w' := by
  have hz := (zero_of_info info_three).1
  have HPd : Hid (∀ W, Rows2 w W 29 (three x) 29 (three 0) → Calls Tryz.prog 25 #[.pointer none] W fun e w' => e = .returned (.agg (three 0)) ∧ Below W.heap.size W w') := Lib.hid (fun W hW => tprod_nil W)
  have HRt : Hid (∀ W, Calls Tryz.prog 57 #[.agg (three 0), .int .i64 1] W fun e w' => e = .returned (.agg (three 0)) ∧ Below W.heap.size W w') := Lib.hid (fun W => lright_any 0 (by omega) W)
  have HCm : Hid (∀ W, Calls Tryz.prog 56 #[.agg (three x), .agg (three 0)] W fun e w' => e = .returned (.int .i64 (cmpN x 0)) ∧ Below W.heap.size W w') := Lib.hid (fun W => lcmp_any x 0 hx (by omega) W)
  have hcm := cmp_le x 0
  obtain ⟨k, hk⟩ : ∃ k, k = cmpN x 0 := ⟨_, rfl⟩
  rw [← hk] at HCm hcm
  have HKp : Hid (∀ W W', Rows2 w W 29 (three x) 29 (three 0) → Below W.heap.size W W' → Rows2 w W' 29 (three x) 29 (three 0)) := Lib.hid (fun W W' h hB => ⟨h.1.keep hB, h.2.1.keep hB, h.2.2.trans (hB.mono h.2.2.size)⟩)
  have HR0 : Hid (Rows2 w (((w.alloc (.cells (three x) 29)).alloc (.cells (three 0) 29)).drewN 1) 29 (three x) 29 (three 0)) := Lib.hid ⟨(Rows2.new w 29 (three x) 29 (three 0)).1, (Rows2.new w 29 (three x) 29 (three 0)).2.1, below_drewN (Rows2.new w 29 (three x) 29 (three 0)).2.2 1⟩
  clear hx hk
  by_cases hle : x ≤ 0
  · rw [decide_eq_true hle] at hcm
    clear hle
    go_enter Tryz.func15, Tryz.ntmps15
    go_wp2_with fail
    generalize ((w.alloc (.cells (three x) 29)).alloc (.cells (three 0) 29)) = w1 at *
    change (Code.region _ _ true).wp _ _ _ _
    refine wp_region_held_drew (S := fun wz => RowAt wz w.heap.size 29 (three x)) (by kernel_rfl) (HR0.out.1) (fun hHeld => ?_)
    refine wpAnyH_take (i := 0) rfl (by kernel_rfl) (by kernel_rfl) (by kernel_rfl) (fun _ _ _ h => h) (yieldsIf_load_row (by rfl) _ _ rfl _ rfl _ _ _ (fun wz h => h) Tryz.underlying29 rfl size_three) (by first | assumption | exact z4.out.1) ?_
    try simp only [Act.put, List.getElem_toArray, List.getElem_cons_zero, List.getElem_cons_succ, List.setIfInBounds_toArray, List.set_cons_zero, List.set_cons_succ]
    refine wpAnyH_take (i := 1) (v := ?_) rfl (by kernel_rfl) (by kernel_rfl) (by kernel_rfl) (fun _ _ _ h => h) (Or.inl ⟨by rfl, ?_⟩) (by first | assumption | exact z4.out.1) ?_
    rotate_left
    · intro w hSw; (try dsimp only at hSw); go_simp; try with_reducible rfl
    try simp only [Act.put, List.getElem_toArray, List.getElem_cons_zero, List.getElem_cons_succ, List.setIfInBounds_toArray, List.set_cons_zero, List.set_cons_succ]
    refine wpAnyH_ready (rs := [2]) (by kernel_rfl) (by simp) ?_
    refine AllReadyH.cons rfl (fun K hK => ?_) AllReadyH.nil
    try simp only [List.getElem_toArray, List.getElem_cons_zero, List.getElem_cons_succ]
    rw [if_pos (by rfl)]
    go_wp2_with (go_at_call 25; refine (HPd.out _ HR0.out).mono ?_; rintro e y2 ⟨rfl, hY2⟩)
    have z2 := Lib.hid (HKp.out _ _ HR0.out hY2)
    clear hY2
    refine hK.out _ _ (z2.out.1) (fun _ => ?_)
    clear hK K
    try simp only [Act.put, List.getElem_toArray, List.getElem_cons_zero, List.getElem_cons_succ, List.setIfInBounds_toArray, List.set_cons_zero, List.set_cons_succ]
    refine wpAnyH_ready (rs := [3]) (by kernel_rfl) (by simp) ?_
    refine AllReadyH.cons rfl (fun K hK => ?_) AllReadyH.nil
    try simp only [List.getElem_toArray, List.getElem_cons_zero, List.getElem_cons_succ]
    rw [if_pos (by rfl)]
    go_wp2_with (go_at_call 57; refine (HRt.out _).mono ?_; rintro e y3 ⟨rfl, hY3⟩)
    have z3 := Lib.hid (HKp.out _ _ z2.out hY3)
    clear hY3
    refine hK.out _ _ (z3.out.1) (fun _ => ?_)
    clear hK K
    try simp only [Act.put, List.getElem_toArray, List.getElem_cons_zero, List.getElem_cons_succ, List.setIfInBounds_toArray, List.set_cons_zero, List.set_cons_succ]
    refine wpAnyH_ready (rs := [4]) (by kernel_rfl) (by simp) ?_
    refine AllReadyH.cons rfl (fun K hK => ?_) AllReadyH.nil
    try simp only [List.getElem_toArray, List.getElem_cons_zero, List.getElem_cons_succ]
    rw [if_pos (by rfl)]
    go_wp2_with (go_at_call 56; refine (HCm.out _).mono ?_; rintro e y4 ⟨rfl, hY4⟩)
    have z4 := Lib.hid (HKp.out _ _ z3.out hY4)
    clear hY4
    refine hK.out _ _ (z4.out.1) (fun _ => ?_)
    clear hK K
    try simp only [Act.put, List.getElem_toArray, List.getElem_cons_zero, List.getElem_cons_succ, List.setIfInBounds_toArray, List.set_cons_zero, List.set_cons_succ]
    refine wpAnyH_take (i := 5) (v := ?_) rfl (by kernel_rfl) (by kernel_rfl) (by kernel_rfl) (fun _ _ _ h => h) (Or.inl ⟨by rfl, ?_⟩) (by first | assumption | exact z4.out.1) ?_
    rotate_left
    · intro w hSw; (try dsimp only at hSw); go_simp; try with_reducible rfl
    try simp only [Act.put, List.getElem_toArray, List.getElem_cons_zero, List.getElem_cons_succ, List.setIfInBounds_toArray, List.set_cons_zero, List.set_cons_succ]
    refine wpAnyH_take (i := 6) (v := ?_) rfl (by kernel_rfl) (by kernel_rfl) (by kernel_rfl) (fun _ _ _ h => h) (Or.inl ⟨by rfl, ?_⟩) (by first | assumption | exact z4.out.1) ?_
    rotate_left
    · intro w hSw; (try dsimp only at hSw); go_simp; try with_reducible rfl
    try simp only [Act.put, List.getElem_toArray, List.getElem_cons_zero, List.getElem_cons_succ, List.setIfInBounds_toArray, List.set_cons_zero, List.set_cons_succ]
    refine wpAnyH_take (i := 7) (v := undef) rfl (by kernel_rfl) (by kernel_rfl) (by kernel_rfl) (fun _ _ _ h => h) (Or.inr ⟨by rfl, rfl⟩) z4.out.1 ?_
    try simp only [Act.put, List.getElem_toArray, List.getElem_cons_zero, List.getElem_cons_succ, List.setIfInBounds_toArray, List.set_cons_zero, List.set_cons_succ]
    refine wpAnyH_take (i := 8) (v := undef) rfl (by kernel_rfl) (by kernel_rfl) (by kernel_rfl) (fun _ _ _ h => h) (Or.inr ⟨by rfl, rfl⟩) z4.out.1 ?_
    try simp only [Act.put, List.getElem_toArray, List.getElem_cons_zero, List.getElem_cons_succ, List.setIfInBounds_toArray, List.set_cons_zero, List.set_cons_succ]
    refine wpAnyH_take (i := 9) (v := ?_) rfl (by kernel_rfl) (by kernel_rfl) (by kernel_rfl) (fun _ _ _ h => h) (Or.inl ⟨by rfl, ?_⟩) (by first | assumption | exact z4.out.1) ?_
    rotate_left
    · intro w hSw; (try dsimp only at hSw); go_simp; try with_reducible rfl
    try simp only [Act.put, List.getElem_toArray, List.getElem_cons_zero, List.getElem_cons_succ, List.setIfInBounds_toArray, List.set_cons_zero, List.set_cons_succ]
    refine wpAnyH_done (by kernel_rfl) ?_ _
    go_wp2_with (first | (refine wpList_load_row rfl _ _ rfl _ rfl _ _ _ _ (z4.out.1) Tryz.underlying29 rfl size_three ?_) | (refine wpList_store_row rfl _ _ _ rfl _ _ rfl rfl _ _ (z4.out.2.1) size_three rfl (three_one _) ?_))
    refine bodyPost_ret (results_cell_row rfl _ _ _ _ _ _ _ rfl (z4.out.2.1.setRow _) Tryz.underlying29 rfl size_three) (by rfl) ?_
    exact ⟨rfl, below_setRow z4.out.2.2 (by omega) _⟩
  · rw [decide_eq_false hle] at hcm
    clear hle
    go_enter Tryz.func15, Tryz.ntmps15
    go_wp2_with fail
    generalize ((w.alloc (.cells (three x) 29)).alloc (.cells (three 0) 29)) = w1 at *
    change (Code.region _ _ true).wp _ _ _ _
    refine wp_region_held_drew (S := fun wz => RowAt wz w.heap.size 29 (three x)) (by kernel_rfl) (HR0.out.1) (fun hHeld => ?_)
    refine wpAnyH_take (i := 0) rfl (by kernel_rfl) (by kernel_rfl) (by kernel_rfl) (fun _ _ _ h => h) (yieldsIf_load_row (by rfl) _ _ rfl _ rfl _ _ _ (fun wz h => h) Tryz.underlying29 rfl size_three) (by first | assumption | exact z4.out.1) ?_
    try simp only [Act.put, List.getElem_toArray, List.getElem_cons_zero, List.getElem_cons_succ, List.setIfInBounds_toArray, List.set_cons_zero, List.set_cons_succ]
    refine wpAnyH_take (i := 1) (v := ?_) rfl (by kernel_rfl) (by kernel_rfl) (by kernel_rfl) (fun _ _ _ h => h) (Or.inl ⟨by rfl, ?_⟩) (by first | assumption | exact z4.out.1) ?_
    rotate_left
    · intro w hSw; (try dsimp only at hSw); go_simp; try with_reducible rfl
    try simp only [Act.put, List.getElem_toArray, List.getElem_cons_zero, List.getElem_cons_succ, List.setIfInBounds_toArray, List.set_cons_zero, List.set_cons_succ]
    refine wpAnyH_ready (rs := [2]) (by kernel_rfl) (by simp) ?_
    refine AllReadyH.cons rfl (fun K hK => ?_) AllReadyH.nil
    try simp only [List.getElem_toArray, List.getElem_cons_zero, List.getElem_cons_succ]
    rw [if_pos (by rfl)]
    go_wp2_with (go_at_call 25; refine (HPd.out _ HR0.out).mono ?_; rintro e y2 ⟨rfl, hY2⟩)
    have z2 := Lib.hid (HKp.out _ _ HR0.out hY2)
    clear hY2
    refine hK.out _ _ (z2.out.1) (fun _ => ?_)
    clear hK K
    try simp only [Act.put, List.getElem_toArray, List.getElem_cons_zero, List.getElem_cons_succ, List.setIfInBounds_toArray, List.set_cons_zero, List.set_cons_succ]
    refine wpAnyH_ready (rs := [3]) (by kernel_rfl) (by simp) ?_
    refine AllReadyH.cons rfl (fun K hK => ?_) AllReadyH.nil
    try simp only [List.getElem_toArray, List.getElem_cons_zero, List.getElem_cons_succ]
    rw [if_pos (by rfl)]
    go_wp2_with (go_at_call 57; refine (HRt.out _).mono ?_; rintro e y3 ⟨rfl, hY3⟩)
    have z3 := Lib.hid (HKp.out _ _ z2.out hY3)
    clear hY3
    refine hK.out _ _ (z3.out.1) (fun _ => ?_)
    clear hK K
    try simp only [Act.put, List.getElem_toArray, List.getElem_cons_zero, List.getElem_cons_succ, List.setIfInBounds_toArray, List.set_cons_zero, List.set_cons_succ]
    refine wpAnyH_ready (rs := [4]) (by kernel_rfl) (by simp) ?_
    refine AllReadyH.cons rfl (fun K hK => ?_) AllReadyH.nil
    try simp only [List.getElem_toArray, List.getElem_cons_zero, List.getElem_cons_succ]
    rw [if_pos (by rfl)]
    go_wp2_with (go_at_call 56; refine (HCm.out _).mono ?_; rintro e y4 ⟨rfl, hY4⟩)
    have z4 := Lib.hid (HKp.out _ _ z3.out hY4)
    clear hY4
    refine hK.out _ _ (z4.out.1) (fun _ => ?_)
    clear hK K
    try simp only [Act.put, List.getElem_toArray, List.getElem_cons_zero, List.getElem_cons_succ, List.setIfInBounds_toArray, List.set_cons_zero, List.set_cons_succ]
    refine wpAnyH_take (i := 5) (v := ?_) rfl (by kernel_rfl) (by kernel_rfl) (by kernel_rfl) (fun _ _ _ h => h) (Or.inl ⟨by rfl, ?_⟩) (by first | assumption | exact z4.out.1) ?_
    rotate_left
    · intro w hSw; (try dsimp only at hSw); go_simp; try with_reducible rfl
    try simp only [Act.put, List.getElem_toArray, List.getElem_cons_zero, List.getElem_cons_succ, List.setIfInBounds_toArray, List.set_cons_zero, List.set_cons_succ]
    refine wpAnyH_take (i := 6) (v := ?_) rfl (by kernel_rfl) (by kernel_rfl) (by kernel_rfl) (fun _ _ _ h => h) (Or.inl ⟨by rfl, ?_⟩) (by first | assumption | exact z4.out.1) ?_
    rotate_left
    · intro w hSw; (try dsimp only at hSw); go_simp; try with_reducible rfl
    try simp only [Act.put, List.getElem_toArray, List.getElem_cons_zero, List.getElem_cons_succ, List.setIfInBounds_toArray, List.set_cons_zero, List.set_cons_succ]
    refine wpAnyH_take (i := 7) (v := ?_) rfl (by kernel_rfl) (by kernel_rfl) (by kernel_rfl) (fun _ _ _ h => h) (Or.inl ⟨by rfl, ?_⟩) (by first | assumption | exact z4.out.1) ?_
    rotate_left
    · intro w hSw; (try dsimp only at hSw); go_simp; try with_reducible rfl
    try simp only [Act.put, List.getElem_toArray, List.getElem_cons_zero, List.getElem_cons_succ, List.setIfInBounds_toArray, List.set_cons_zero, List.set_cons_succ]
    refine wpAnyH_take (i := 8) (v := ?_) rfl (by kernel_rfl) (by kernel_rfl) (by kernel_rfl) (fun _ _ _ h => h) (Or.inl ⟨by rfl, ?_⟩) (by first | assumption | exact z4.out.1) ?_
    rotate_left
    · intro w hSw; (try dsimp only at hSw); go_simp; try with_reducible rfl
    try simp only [Act.put, List.getElem_toArray, List.getElem_cons_zero, List.getElem_cons_succ, List.setIfInBounds_toArray, List.set_cons_zero, List.set_cons_succ]
    refine wpAnyH_take (i := 9) (v := ?_) rfl (by kernel_rfl) (by kernel_rfl) (by kernel_rfl) (fun _ _ _ h => h) (Or.inl ⟨by rfl, ?_⟩) (by first | assumption | exact z4.out.1) ?_
    rotate_left
    · intro w hSw; (try dsimp only at hSw); go_simp; try with_reducible rfl
    try simp only [Act.put, List.getElem_toArray, List.getElem_cons_zero, List.getElem_cons_succ, List.setIfInBounds_toArray, List.set_cons_zero, List.set_cons_succ]
    refine wpAnyH_done (by kernel_rfl) ?_ _
    go_wp2_with (first | (refine wpList_load_row rfl _ _ rfl _ rfl _ _ _ _ (z4.out.1) Tryz.underlying29 rfl size_three ?_) | (refine wpList_store_row rfl _ _ _ rfl _ _ rfl rfl _ _ (z4.out.2.1) size_three rfl (three_one _) ?_))
    refine bodyPost_ret (results_cell_row rfl _ _ _ _ _ _ _ rfl (z4.out.2.1.setRow _) Tryz.underlying29 rfl size_three) (by rfl) ?_
    exact ⟨rfl, below_setRow z4.out.2.2 (by omega) _⟩
set_option maxHeartbeats 1000000 in
set_option maxRecDepth 100000 in
theorem tjoin_nil (m : Nat) (w : World) :
    Calls Tryz.prog 21 #[.pointer none, .agg (three m)] w fun e w' => e = .returned (.agg (three 0)) ∧ Below w.heap.size w w' := by
  have hz := (zero_of_info info_three).1
  have R0 := Lib.hid (Rows2.new w 28 (three m) 29 (three 0))
  go_enter Tryz.func21, Tryz.ntmps21
  go_wp2_with (refine wpList_store_row rfl _ _ _ rfl _ _ rfl rfl _ _ (R0.out.2.1) size_three rfl (three_one _) ?_)
  refine bodyPost_ret (results_cell_row rfl _ _ _ _ _ _ _ rfl (R0.out.2.1.setRow _) Tryz.underlying29 rfl size_three) (by rfl) ?_
  exact ⟨rfl, below_setRow R0.out.2.2 (by omega) _⟩
end Go.Proofs.YtjjfiidgjiekpaaGreat
