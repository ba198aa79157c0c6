/- garner: Centre; what a nil trio answers. -/
import Derived.Test.YtemoginoanhjlaaGreatWB01CGarBEqT
set_option linter.unusedVariables false
set_option linter.unusedSimpArgs false
set_option linter.unusedSectionVars false
section
/- garner: Centre; what a nil trio answers. -/
namespace Go.Proofs.YtemoginoanhjlaaGreat
open Go.RowKit
open Alg (Prime)
theorem cmp_le (x y : Nat) : decide (cmpN x y ≤ 0) = decide (x ≤ y) := by
  unfold cmpN
  by_cases h : x < y
  · rw [if_pos h]; simp; omega
  · rw [if_neg h]
    by_cases h2 : y < x
    · rw [if_pos h2]; simp; omega
    · rw [if_neg h2]; simp; omega
set_option maxHeartbeats 2000000 in
set_option maxRecDepth 100000 in
theorem tcentre_yes {w : World} {v : Value} {p q r : Nat} (h : TrioP w w.heap.size v p q r) (x : Nat) (hx : x < 6277101735386680763835789423207666416102355444464034512896) (hn : p * q * r < 6277101735386680763835789423207666416102355444464034512896) :
    Calls Tryz.prog 65 #[v, .agg (three x)] w fun e w' => e = .returned (.agg (three (if x ≤ p * q * r / 2 then x else dif x (p * q * r)))) ∧ Below w.heap.size w w' := by
  have hz := (zero_of_info info_three).1
  have HT := Lib.hid h
  have HPd : Hid (∀ W, Rows2 w W 69 (three x) 69 (three 0) → Calls Tryz.prog 78 #[v] W fun e w' => e = .returned (.agg (three (p * q * r))) ∧ Below W.heap.size W w') := Lib.hid (fun W hW => tprod_yes (HT.out.below hW.2.2) hW.2.2.size)
  obtain ⟨G, va, vb, vc, s, t, g1, g2, g3, rfl, hG, ha, hbb, hc, hr, h1⟩ := h
  clear ha hbb hc h1 HT
  obtain ⟨n, hn'⟩ : ∃ n, n = p * q * r := ⟨_, rfl⟩
  rw [← hn'] at HPd hn hr ⊢
  have HRt : Hid (∀ W, Calls Tryz.prog 127 #[.agg (three n), .int .i64 1] W fun e w' => e = .returned (.agg (three (n / 2))) ∧ Below W.heap.size W w') := Lib.hid (fun W => lright_any n hn W)
  obtain ⟨m, hm⟩ : ∃ m, m = n / 2 := ⟨_, rfl⟩
  rw [← hm] at HRt ⊢
  have HCm : Hid (∀ W, Calls Tryz.prog 77 #[.agg (three x), .agg (three m)] W fun e w' => e = .returned (.int .i64 (cmpN x m)) ∧ Below W.heap.size W w') := Lib.hid (fun W => lcmp_any x m hx (by omega) W)
  have hcm := cmp_le x m
  obtain ⟨k, hk⟩ : ∃ k, k = cmpN x m := ⟨_, rfl⟩
  rw [← hk] at HCm hcm
  have HKp : Hid (∀ W W', Rows2 w W 69 (three x) 69 (three 0) → Below W.heap.size W W' → Rows2 w W' 69 (three x) 69 (three 0)) := Lib.hid (fun W W' h hB => ⟨h.1.keep hB, h.2.1.keep hB, h.2.2.trans (hB.mono h.2.2.size)⟩)
  have HR0 : Hid (Rows2 w (((w.alloc (.cells (three x) 69)).alloc (.cells (three 0) 69)).drewN 1) 69 (three x) 69 (three 0)) := Lib.hid ⟨(Rows2.new w 69 (three x) 69 (three 0)).1, (Rows2.new w 69 (three x) 69 (three 0)).2.1, below_drewN (Rows2.new w 69 (three x) 69 (three 0)).2.2 1⟩
  have HG := Lib.hid hr
  clear hn' hm hx hn hk hr
  by_cases hle : x ≤ m
  · rw [if_pos hle]
    rw [decide_eq_true hle] at hcm
    clear hle
    go_enter Tryz.func65, Tryz.ntmps65
    go_wp2_with fail
    generalize ((w.alloc (.cells (three x) 69)).alloc (.cells (three 0) 69)) = w1 at *
    change (Code.region _ _ true).wp _ _ _ _
    refine wp_region_held_drew (S := fun wz => RowAt wz w.heap.size 69 (three x)) (by kernel_rfl) (HR0.out.1) (fun hHeld => ?_)
    refine wpAnyH_take (i := 0) rfl (by kernel_rfl) (by kernel_rfl) (by kernel_rfl) (fun _ _ _ h => h) (yieldsIf_load_row (by rfl) _ _ rfl _ rfl _ _ _ (fun wz h => h) Tryz.underlying69 rfl size_three) (by first | assumption | exact z4.out.1) ?_
    try simp only [Act.put, List.getElem_toArray, List.getElem_cons_zero, List.getElem_cons_succ, List.setIfInBounds_toArray, List.set_cons_zero, List.set_cons_succ]
    refine wpAnyH_take (i := 1) (v := ?_) rfl (by kernel_rfl) (by kernel_rfl) (by kernel_rfl) (fun _ _ _ h => h) (Or.inl ⟨by rfl, ?_⟩) (by first | assumption | exact z4.out.1) ?_
    rotate_left
    · intro w hSw; (try dsimp only at hSw); go_simp; try with_reducible rfl
    try simp only [Act.put, List.getElem_toArray, List.getElem_cons_zero, List.getElem_cons_succ, List.setIfInBounds_toArray, List.set_cons_zero, List.set_cons_succ]
    refine wpAnyH_ready (rs := [2]) (by kernel_rfl) (by simp) ?_
    refine AllReadyH.cons rfl (fun K hK => ?_) AllReadyH.nil
    try simp only [List.getElem_toArray, List.getElem_cons_zero, List.getElem_cons_succ]
    rw [if_pos (by rfl)]
    go_wp2_with (go_at_call 78; refine (HPd.out _ HR0.out).mono ?_; rintro e y2 ⟨rfl, hY2⟩)
    have z2 := Lib.hid (HKp.out _ _ HR0.out hY2)
    clear hY2
    refine hK.out _ _ (z2.out.1) (fun _ => ?_)
    clear hK K
    try simp only [Act.put, List.getElem_toArray, List.getElem_cons_zero, List.getElem_cons_succ, List.setIfInBounds_toArray, List.set_cons_zero, List.set_cons_succ]
    refine wpAnyH_ready (rs := [3]) (by kernel_rfl) (by simp) ?_
    refine AllReadyH.cons rfl (fun K hK => ?_) AllReadyH.nil
    try simp only [List.getElem_toArray, List.getElem_cons_zero, List.getElem_cons_succ]
    rw [if_pos (by rfl)]
    go_wp2_with (go_at_call 127; refine (HRt.out _).mono ?_; rintro e y3 ⟨rfl, hY3⟩)
    have z3 := Lib.hid (HKp.out _ _ z2.out hY3)
    clear hY3
    refine hK.out _ _ (z3.out.1) (fun _ => ?_)
    clear hK K
    try simp only [Act.put, List.getElem_toArray, List.getElem_cons_zero, List.getElem_cons_succ, List.setIfInBounds_toArray, List.set_cons_zero, List.set_cons_succ]
    refine wpAnyH_ready (rs := [4]) (by kernel_rfl) (by simp) ?_
    refine AllReadyH.cons rfl (fun K hK => ?_) AllReadyH.nil
    try simp only [List.getElem_toArray, List.getElem_cons_zero, List.getElem_cons_succ]
    rw [if_pos (by rfl)]
    go_wp2_with (go_at_call 77; refine (HCm.out _).mono ?_; rintro e y4 ⟨rfl, hY4⟩)
    have z4 := Lib.hid (HKp.out _ _ z3.out hY4)
    clear hY4
    refine hK.out _ _ (z4.out.1) (fun _ => ?_)
    clear hK K
    try simp only [Act.put, List.getElem_toArray, List.getElem_cons_zero, List.getElem_cons_succ, List.setIfInBounds_toArray, List.set_cons_zero, List.set_cons_succ]
    refine wpAnyH_take (i := 5) (v := ?_) rfl (by kernel_rfl) (by kernel_rfl) (by kernel_rfl) (fun _ _ _ h => h) (Or.inl ⟨by rfl, ?_⟩) (by first | assumption | exact z4.out.1) ?_
    rotate_left
    · intro w hSw; (try dsimp only at hSw); go_simp; try with_reducible rfl
    try simp only [Act.put, List.getElem_toArray, List.getElem_cons_zero, List.getElem_cons_succ, List.setIfInBounds_toArray, List.set_cons_zero, List.set_cons_succ]
    refine wpAnyH_take (i := 6) (v := ?_) rfl (by kernel_rfl) (by kernel_rfl) (by kernel_rfl) (fun _ _ _ h => h) (Or.inl ⟨by rfl, ?_⟩) (by first | assumption | exact z4.out.1) ?_
    rotate_left
    · intro w hSw; (try dsimp only at hSw); go_simp; try with_reducible rfl
    try simp only [Act.put, List.getElem_toArray, List.getElem_cons_zero, List.getElem_cons_succ, List.setIfInBounds_toArray, List.set_cons_zero, List.set_cons_succ]
    refine wpAnyH_take (i := 7) (v := undef) rfl (by kernel_rfl) (by kernel_rfl) (by kernel_rfl) (fun _ _ _ h => h) (Or.inr ⟨by rfl, rfl⟩) z4.out.1 ?_
    try simp only [Act.put, List.getElem_toArray, List.getElem_cons_zero, List.getElem_cons_succ, List.setIfInBounds_toArray, List.set_cons_zero, List.set_cons_succ]
    refine wpAnyH_take (i := 8) (v := undef) rfl (by kernel_rfl) (by kernel_rfl) (by kernel_rfl) (fun _ _ _ h => h) (Or.inr ⟨by rfl, rfl⟩) z4.out.1 ?_
    try simp only [Act.put, List.getElem_toArray, List.getElem_cons_zero, List.getElem_cons_succ, List.setIfInBounds_toArray, List.set_cons_zero, List.set_cons_succ]
    refine wpAnyH_take (i := 9) (v := ?_) rfl (by kernel_rfl) (by kernel_rfl) (by kernel_rfl) (fun _ _ _ h => h) (Or.inl ⟨by rfl, ?_⟩) (by first | assumption | exact z4.out.1) ?_
    rotate_left
    · intro w hSw; (try dsimp only at hSw); go_simp; try with_reducible rfl
    try simp only [Act.put, List.getElem_toArray, List.getElem_cons_zero, List.getElem_cons_succ, List.setIfInBounds_toArray, List.set_cons_zero, List.set_cons_succ]
    refine wpAnyH_done (by kernel_rfl) ?_ _
    go_wp2_with (first | (refine wpList_load_row rfl _ _ rfl _ rfl _ _ _ _ (z4.out.1) Tryz.underlying69 rfl size_three ?_) | (refine wpList_store_row rfl _ _ _ rfl _ _ rfl rfl _ _ (z4.out.2.1) size_three rfl (three_one _) ?_))
    refine bodyPost_ret (results_cell_row rfl _ _ _ _ _ _ _ rfl (z4.out.2.1.setRow _) Tryz.underlying69 rfl size_three) (by rfl) ?_
    exact ⟨rfl, below_setRow z4.out.2.2 (by omega) _⟩
  · rw [if_neg hle]
    rw [decide_eq_false hle] at hcm
    clear hle
    obtain ⟨d, hd⟩ : ∃ d, d = dif x n := ⟨_, rfl⟩
    have HSb : Hid (∀ W, Calls Tryz.prog 84 #[.agg (three x), .agg (tl n).toArray] W fun e w' => ∃ bo, e = .returned (.tuple #[.agg (three d), .bool bo]) ∧ Below W.heap.size W w') := Lib.hid (fun W => by
      rw [hd]; exact (lsub_any x n W).mono fun e w' h => ⟨_, h⟩)
    rw [← hd]
    clear hd
    go_enter Tryz.func65, Tryz.ntmps65
    go_wp2_with fail
    generalize ((w.alloc (.cells (three x) 69)).alloc (.cells (three 0) 69)) = w1 at *
    change (Code.region _ _ true).wp _ _ _ _
    refine wp_region_held_drew (S := fun wz => RowAt wz w.heap.size 69 (three x)) (by kernel_rfl) (HR0.out.1) (fun hHeld => ?_)
    refine wpAnyH_take (i := 0) rfl (by kernel_rfl) (by kernel_rfl) (by kernel_rfl) (fun _ _ _ h => h) (yieldsIf_load_row (by rfl) _ _ rfl _ rfl _ _ _ (fun wz h => h) Tryz.underlying69 rfl size_three) (by first | assumption | exact z4.out.1) ?_
    try simp only [Act.put, List.getElem_toArray, List.getElem_cons_zero, List.getElem_cons_succ, List.setIfInBounds_toArray, List.set_cons_zero, List.set_cons_succ]
    refine wpAnyH_take (i := 1) (v := ?_) rfl (by kernel_rfl) (by kernel_rfl) (by kernel_rfl) (fun _ _ _ h => h) (Or.inl ⟨by rfl, ?_⟩) (by first | assumption | exact z4.out.1) ?_
    rotate_left
    · intro w hSw; (try dsimp only at hSw); go_simp; try with_reducible rfl
    try simp only [Act.put, List.getElem_toArray, List.getElem_cons_zero, List.getElem_cons_succ, List.setIfInBounds_toArray, List.set_cons_zero, List.set_cons_succ]
    refine wpAnyH_ready (rs := [2]) (by kernel_rfl) (by simp) ?_
    refine AllReadyH.cons rfl (fun K hK => ?_) AllReadyH.nil
    try simp only [List.getElem_toArray, List.getElem_cons_zero, List.getElem_cons_succ]
    rw [if_pos (by rfl)]
    go_wp2_with (go_at_call 78; refine (HPd.out _ HR0.out).mono ?_; rintro e y2 ⟨rfl, hY2⟩)
    have z2 := Lib.hid (HKp.out _ _ HR0.out hY2)
    clear hY2
    refine hK.out _ _ (z2.out.1) (fun _ => ?_)
    clear hK K
    try simp only [Act.put, List.getElem_toArray, List.getElem_cons_zero, List.getElem_cons_succ, List.setIfInBounds_toArray, List.set_cons_zero, List.set_cons_succ]
    refine wpAnyH_ready (rs := [3]) (by kernel_rfl) (by simp) ?_
    refine AllReadyH.cons rfl (fun K hK => ?_) AllReadyH.nil
    try simp only [List.getElem_toArray, List.getElem_cons_zero, List.getElem_cons_succ]
    rw [if_pos (by rfl)]
    go_wp2_with (go_at_call 127; refine (HRt.out _).mono ?_; rintro e y3 ⟨rfl, hY3⟩)
    have z3 := Lib.hid (HKp.out _ _ z2.out hY3)
    clear hY3
    refine hK.out _ _ (z3.out.1) (fun _ => ?_)
    clear hK K
    try simp only [Act.put, List.getElem_toArray, List.getElem_cons_zero, List.getElem_cons_succ, List.setIfInBounds_toArray, List.set_cons_zero, List.set_cons_succ]
    refine wpAnyH_ready (rs := [4]) (by kernel_rfl) (by simp) ?_
    refine AllReadyH.cons rfl (fun K hK => ?_) AllReadyH.nil
    try simp only [List.getElem_toArray, List.getElem_cons_zero, List.getElem_cons_succ]
    rw [if_pos (by rfl)]
    go_wp2_with (go_at_call 77; refine (HCm.out _).mono ?_; rintro e y4 ⟨rfl, hY4⟩)
    have z4 := Lib.hid (HKp.out _ _ z3.out hY4)
    clear hY4
    refine hK.out _ _ (z4.out.1) (fun _ => ?_)
    clear hK K
    try simp only [Act.put, List.getElem_toArray, List.getElem_cons_zero, List.getElem_cons_succ, List.setIfInBounds_toArray, List.set_cons_zero, List.set_cons_succ]
    refine wpAnyH_take (i := 5) (v := ?_) rfl (by kernel_rfl) (by kernel_rfl) (by kernel_rfl) (fun _ _ _ h => h) (Or.inl ⟨by rfl, ?_⟩) (by first | assumption | exact z4.out.1) ?_
    rotate_left
    · intro w hSw; (try dsimp only at hSw); go_simp; try with_reducible rfl
    try simp only [Act.put, List.getElem_toArray, List.getElem_cons_zero, List.getElem_cons_succ, List.setIfInBounds_toArray, List.set_cons_zero, List.set_cons_succ]
    refine wpAnyH_take (i := 6) (v := ?_) rfl (by kernel_rfl) (by kernel_rfl) (by kernel_rfl) (fun _ _ _ h => h) (Or.inl ⟨by rfl, ?_⟩) (by first | assumption | exact z4.out.1) ?_
    rotate_left
    · intro w hSw; (try dsimp only at hSw); go_simp; try with_reducible rfl
    try simp only [Act.put, List.getElem_toArray, List.getElem_cons_zero, List.getElem_cons_succ, List.setIfInBounds_toArray, List.set_cons_zero, List.set_cons_succ]
    refine wpAnyH_take (i := 7) (v := ?_) rfl (by kernel_rfl) (by kernel_rfl) (by kernel_rfl) (fun _ _ _ h => h) (Or.inl ⟨by rfl, ?_⟩) (by first | assumption | exact z4.out.1) ?_
    rotate_left
    · intro w hSw; (try dsimp only at hSw); go_simp; try with_reducible rfl
    try simp only [Act.put, List.getElem_toArray, List.getElem_cons_zero, List.getElem_cons_succ, List.setIfInBounds_toArray, List.set_cons_zero, List.set_cons_succ]
    refine wpAnyH_take (i := 8) (v := ?_) rfl (by kernel_rfl) (by kernel_rfl) (by kernel_rfl) (fun _ _ _ h => h) (Or.inl ⟨by rfl, ?_⟩) (by first | assumption | exact z4.out.1) ?_
    rotate_left
    · intro w hSw; (try dsimp only at hSw); go_simp; try with_reducible rfl
    try simp only [Act.put, List.getElem_toArray, List.getElem_cons_zero, List.getElem_cons_succ, List.setIfInBounds_toArray, List.set_cons_zero, List.set_cons_succ]
    refine wpAnyH_take (i := 9) (v := ?_) rfl (by kernel_rfl) (by kernel_rfl) (by kernel_rfl) (fun _ _ _ h => h) (Or.inl ⟨by rfl, ?_⟩) (by first | assumption | exact z4.out.1) ?_
    rotate_left
    · intro w hSw; (try dsimp only at hSw); go_simp; try with_reducible rfl
    try simp only [Act.put, List.getElem_toArray, List.getElem_cons_zero, List.getElem_cons_succ, List.setIfInBounds_toArray, List.set_cons_zero, List.set_cons_succ]
    refine wpAnyH_done (by kernel_rfl) ?_ _
    go_wp2_with fail
    have HG4 : Hid (RowAt (y4.drewN 1) G 175 (gtrow va vb vc s t (p * q) n)) := Lib.hid ((HG.out.below z4.out.2.2 hG).drewN 1)
    change (Code.region _ _ true).wp _ _ _ _
    have Z4 : Hid (Rows2 w (y4.drewN 1) 69 (three x) 69 (three 0) ∧ RowAt (y4.drewN 1) G 175 (gtrow va vb vc s t (p * q) n)) := Lib.hid ⟨⟨z4.out.1, z4.out.2.1, below_drewN z4.out.2.2 1⟩, HG4.out⟩
    refine wp_region_held_drew (S := fun wz => RowAt wz w.heap.size 69 (three x) ∧ wz.rangeAt G 8 (tl n)) (by kernel_rfl) (⟨z4.out.1, HG4.out.prod⟩) (fun hHeld => ?_)
    refine wpAnyH_take (i := 0) rfl (by kernel_rfl) (by kernel_rfl) (by kernel_rfl) (fun _ _ _ h => h) (yieldsIf_load_row (by rfl) _ _ rfl _ rfl _ _ _ (fun wz h => h.1) Tryz.underlying69 rfl size_three) (by assumption) ?_
    try simp only [Act.put, List.getElem_toArray, List.getElem_cons_zero, List.getElem_cons_succ, List.setIfInBounds_toArray, List.set_cons_zero, List.set_cons_succ]
    refine wpAnyH_take (i := 1) (v := ?_) rfl (by kernel_rfl) (by kernel_rfl) (by kernel_rfl) (fun _ _ _ h => h) (Or.inl ⟨by rfl, ?_⟩) (by assumption) ?_
    rotate_left
    · intro w hSw; (try dsimp only at hSw); go_simp; try with_reducible rfl
    try simp only [Act.put, List.getElem_toArray, List.getElem_cons_zero, List.getElem_cons_succ, List.setIfInBounds_toArray, List.set_cons_zero, List.set_cons_succ]
    refine wpAnyH_take (i := 2) (v := ?_) rfl (by kernel_rfl) (by kernel_rfl) (by kernel_rfl) (fun _ _ _ h => h) (Or.inl ⟨by rfl, ?_⟩) (by assumption) ?_
    rotate_left
    · intro w hSw; (try dsimp only at hSw); go_simp; try with_reducible rfl
    try simp only [Act.put, List.getElem_toArray, List.getElem_cons_zero, List.getElem_cons_succ, List.setIfInBounds_toArray, List.set_cons_zero, List.set_cons_succ]
    refine wpAnyH_take (i := 3) (v := ?_) rfl (by kernel_rfl) (by kernel_rfl) (by kernel_rfl) (fun _ _ _ h => h) (Or.inl ⟨by rfl, ?_⟩) (by assumption) ?_
    rotate_left
    · intro w hSw; (try dsimp only at hSw); go_simp; try with_reducible rfl
    try simp only [Act.put, List.getElem_toArray, List.getElem_cons_zero, List.getElem_cons_succ, List.setIfInBounds_toArray, List.set_cons_zero, List.set_cons_succ]
    refine wpAnyH_take (i := 4) rfl (by kernel_rfl) (by kernel_rfl) (by kernel_rfl) (fun _ _ _ h => h) (yieldsIf_load_mid (by rfl) _ _ rfl _ _ rfl _ _ (fun wz h => h.2) Tryz.underlying69 rfl (by exact size_three)) (by assumption) ?_
    try simp only [Act.put, List.getElem_toArray, List.getElem_cons_zero, List.getElem_cons_succ, List.setIfInBounds_toArray, List.set_cons_zero, List.set_cons_succ]
    refine wpAnyH_ready (rs := [5, 9]) (by kernel_rfl) (by simp) ?_
    refine AllReadyH.cons rfl (fun K hK => ?_) ?_
    · try simp only [List.getElem_toArray, List.getElem_cons_zero, List.getElem_cons_succ]
      rw [if_pos (by rfl)]
      go_wp2_with (go_at_call 84; refine (HSb.out _).mono ?_; rintro e y5 ⟨bo, rfl, hY5⟩)
      have z5 : Hid (Rows2 w y5 69 (three x) 69 (three 0) ∧ RowAt y5 G 175 (gtrow va vb vc s t (p * q) n)) := Lib.hid ⟨⟨Z4.out.1.1.keep hY5, Z4.out.1.2.1.keep hY5, Z4.out.1.2.2.trans (hY5.mono Z4.out.1.2.2.size)⟩, Z4.out.2.keep hY5⟩
      clear hY5
      refine hK.out _ _ (⟨z5.out.1.1, z5.out.2.prod⟩) (fun _ => ?_)
      clear hK K
      try simp only [Act.put, List.getElem_toArray, List.getElem_cons_zero, List.getElem_cons_succ, List.setIfInBounds_toArray, List.set_cons_zero, List.set_cons_succ]
      refine wpAnyH_take (i := 6) (v := ?_) rfl (by kernel_rfl) (by kernel_rfl) (by kernel_rfl) (fun _ _ _ h => h) (Or.inl ⟨by rfl, ?_⟩) ⟨z5.out.1.1, z5.out.2.prod⟩ ?_
      rotate_left
      · intro w hSw; (try dsimp only at hSw); go_simp; try with_reducible rfl
      try simp only [Act.put, List.getElem_toArray, List.getElem_cons_zero, List.getElem_cons_succ, List.setIfInBounds_toArray, List.set_cons_zero, List.set_cons_succ]
      refine wpAnyH_take (i := 7) (v := ?_) rfl (by kernel_rfl) (by kernel_rfl) (by kernel_rfl) (fun _ _ _ h => h) (Or.inl ⟨by rfl, ?_⟩) ⟨z5.out.1.1, z5.out.2.prod⟩ ?_
      rotate_left
      · intro w hSw; (try dsimp only at hSw); go_simp; try with_reducible rfl
      try simp only [Act.put, List.getElem_toArray, List.getElem_cons_zero, List.getElem_cons_succ, List.setIfInBounds_toArray, List.set_cons_zero, List.set_cons_succ]
      refine wpAnyH_take (i := 8) (v := ?_) rfl (by kernel_rfl) (by kernel_rfl) (by kernel_rfl) (fun _ _ _ h => h) (Or.inl ⟨by rfl, ?_⟩) ⟨z5.out.1.1, z5.out.2.prod⟩ ?_
      rotate_left
      · intro w hSw; (try dsimp only at hSw); go_simp; try with_reducible rfl
      try simp only [Act.put, List.getElem_toArray, List.getElem_cons_zero, List.getElem_cons_succ, List.setIfInBounds_toArray, List.set_cons_zero, List.set_cons_succ]
      refine wpAnyH_ready (rs := [9]) (by kernel_rfl) (by simp) ?_
      refine AllReadyH.cons rfl (fun K hK => ?_) AllReadyH.nil
      try simp only [List.getElem_toArray, List.getElem_cons_zero, List.getElem_cons_succ]
      rw [if_pos (by rfl)]
      go_wp2_with fail
      have z9 : Hid (Rows2 w (y5.alloc (.cells (three 0) 69)) 69 (three x) 69 (three 0) ∧ RowAt (y5.alloc (.cells (three 0) 69)) G 175 (gtrow va vb vc s t (p * q) n)) := Lib.hid ⟨⟨z5.out.1.1.alloc _, z5.out.1.2.1.alloc _, z5.out.1.2.2.alloc z5.out.1.2.2.size _⟩, z5.out.2.alloc _⟩
      have n9 := Lib.hid (RowAt.new y5 69 (three 0))
      have hx5 : w.heap.size ≠ y5.heap.size := by have := z5.out.1.1.lt; omega
      have hx6 : w.heap.size + 1 ≠ y5.heap.size := by have := z5.out.1.2.1.lt; omega
      have hx7 : G ≠ y5.heap.size := by have := z5.out.2.lt; omega
      have hx8 : w.heap.size ≤ y5.heap.size := z5.out.1.2.2.size
      refine hK.out _ _ (⟨z9.out.1.1, z9.out.2.prod⟩) (fun _ => ?_)
      clear hK K
      try simp only [Act.put, List.getElem_toArray, List.getElem_cons_zero, List.getElem_cons_succ, List.setIfInBounds_toArray, List.set_cons_zero, List.set_cons_succ]
      refine wpAnyH_ready (rs := [10]) (by kernel_rfl) (by simp) ?_
      refine AllReadyH.cons rfl (fun K hK => ?_) AllReadyH.nil
      try simp only [List.getElem_toArray, List.getElem_cons_zero, List.getElem_cons_succ]
      rw [if_pos (by rfl)]
      refine wp_store_row _ _ _ rfl _ _ rfl rfl _ _ (n9.out) size_three rfl (three_one _) ?_
      have z10 : Hid (Rows2 w ((y5.alloc (.cells (three 0) 69)).setRow y5.heap.size (three d)) 69 (three x) 69 (three 0) ∧ RowAt ((y5.alloc (.cells (three 0) 69)).setRow y5.heap.size (three d)) G 175 (gtrow va vb vc s t (p * q) n)) := Lib.hid ⟨⟨z9.out.1.1.setRowOther _ _ hx5, z9.out.1.2.1.setRowOther _ _ hx6, below_setRow z9.out.1.2.2 hx8 _⟩, z9.out.2.setRowOther _ _ hx7⟩
      have n10 := Lib.hid (n9.out.setRow (three d))
      refine hK.out _ _ (⟨z10.out.1.1, z10.out.2.prod⟩) (fun _ => ?_)
      clear hK K
      try simp only [Act.put, List.getElem_toArray, List.getElem_cons_zero, List.getElem_cons_succ, List.setIfInBounds_toArray, List.set_cons_zero, List.set_cons_succ]
      refine wpAnyH_ready (rs := [11]) (by kernel_rfl) (by simp) ?_
      refine AllReadyH.cons rfl (fun K hK => ?_) AllReadyH.nil
      try simp only [List.getElem_toArray, List.getElem_cons_zero, List.getElem_cons_succ]
      rw [if_pos (by rfl)]
      go_wp2_with fail
      refine hK.out _ _ (⟨z10.out.1.1, z10.out.2.prod⟩) (fun _ => ?_)
      clear hK K
      try simp only [Act.put, List.getElem_toArray, List.getElem_cons_zero, List.getElem_cons_succ, List.setIfInBounds_toArray, List.set_cons_zero, List.set_cons_succ]
      refine wpAnyH_done (by kernel_rfl) ?_ _
      go_wp2_with (first | (refine wpList_load_row rfl _ _ rfl _ rfl _ _ _ _ (n10.out) Tryz.underlying69 rfl size_three ?_) | (refine wpList_store_row rfl _ _ _ rfl _ _ rfl rfl _ _ (z10.out.1.2.1) size_three rfl (three_one _) ?_))
      refine bodyPost_ret (results_cell_row rfl _ _ _ _ _ _ _ rfl (z10.out.1.2.1.setRow _) Tryz.underlying69 rfl size_three) (by rfl) ?_
      exact ⟨rfl, below_setRow z10.out.1.2.2 (by omega) _⟩
    · refine AllReadyH.cons rfl (fun K hK => ?_) AllReadyH.nil
      try simp only [List.getElem_toArray, List.getElem_cons_zero, List.getElem_cons_succ]
      rw [if_pos (by rfl)]
      go_wp2_with fail
      have z8 : Hid (Rows2 w ((y4.drewN 1).alloc (.cells (three 0) 69)) 69 (three x) 69 (three 0) ∧ RowAt ((y4.drewN 1).alloc (.cells (three 0) 69)) G 175 (gtrow va vb vc s t (p * q) n)) := Lib.hid ⟨⟨Z4.out.1.1.alloc _, Z4.out.1.2.1.alloc _, Z4.out.1.2.2.alloc Z4.out.1.2.2.size _⟩, Z4.out.2.alloc _⟩
      have n8 := Lib.hid (RowAt.new (y4.drewN 1) 69 (three 0))
      have hx5 : w.heap.size ≠ (y4.drewN 1).heap.size := by have := Z4.out.1.1.lt; omega
      have hx6 : w.heap.size + 1 ≠ (y4.drewN 1).heap.size := by have := Z4.out.1.2.1.lt; omega
      have hx7 : G ≠ (y4.drewN 1).heap.size := by have := Z4.out.2.lt; omega
      have hx8 : w.heap.size ≤ (y4.drewN 1).heap.size := Z4.out.1.2.2.size
      refine hK.out _ _ (⟨z8.out.1.1, z8.out.2.prod⟩) (fun _ => ?_)
      clear hK K
      try simp only [Act.put, List.getElem_toArray, List.getElem_cons_zero, List.getElem_cons_succ, List.setIfInBounds_toArray, List.set_cons_zero, List.set_cons_succ]
      refine wpAnyH_ready (rs := [5]) (by kernel_rfl) (by simp) ?_
      refine AllReadyH.cons rfl (fun K hK => ?_) AllReadyH.nil
      try simp only [List.getElem_toArray, List.getElem_cons_zero, List.getElem_cons_succ]
      rw [if_pos (by rfl)]
      go_wp2_with (go_at_call 84; refine (HSb.out _).mono ?_; rintro e y5 ⟨bo, rfl, hY5⟩)
      have z5 : Hid (Rows2 w y5 69 (three x) 69 (three 0) ∧ RowAt y5 G 175 (gtrow va vb vc s t (p * q) n)) := Lib.hid ⟨⟨z8.out.1.1.keep hY5, z8.out.1.2.1.keep hY5, z8.out.1.2.2.trans (hY5.mono z8.out.1.2.2.size)⟩, z8.out.2.keep hY5⟩
      have n9 := Lib.hid (n8.out.keep hY5)
      have z9 := z5
      clear hY5
      refine hK.out _ _ (⟨z5.out.1.1, z5.out.2.prod⟩) (fun _ => ?_)
      clear hK K
      try simp only [Act.put, List.getElem_toArray, List.getElem_cons_zero, List.getElem_cons_succ, List.setIfInBounds_toArray, List.set_cons_zero, List.set_cons_succ]
      refine wpAnyH_take (i := 6) (v := ?_) rfl (by kernel_rfl) (by kernel_rfl) (by kernel_rfl) (fun _ _ _ h => h) (Or.inl ⟨by rfl, ?_⟩) ⟨z5.out.1.1, z5.out.2.prod⟩ ?_
      rotate_left
      · intro w hSw; (try dsimp only at hSw); go_simp; try with_reducible rfl
      try simp only [Act.put, List.getElem_toArray, List.getElem_cons_zero, List.getElem_cons_succ, List.setIfInBounds_toArray, List.set_cons_zero, List.set_cons_succ]
      refine wpAnyH_take (i := 7) (v := ?_) rfl (by kernel_rfl) (by kernel_rfl) (by kernel_rfl) (fun _ _ _ h => h) (Or.inl ⟨by rfl, ?_⟩) ⟨z5.out.1.1, z5.out.2.prod⟩ ?_
      rotate_left
      · intro w hSw; (try dsimp only at hSw); go_simp; try with_reducible rfl
      try simp only [Act.put, List.getElem_toArray, List.getElem_cons_zero, List.getElem_cons_succ, List.setIfInBounds_toArray, List.set_cons_zero, List.set_cons_succ]
      refine wpAnyH_take (i := 8) (v := ?_) rfl (by kernel_rfl) (by kernel_rfl) (by kernel_rfl) (fun _ _ _ h => h) (Or.inl ⟨by rfl, ?_⟩) ⟨z5.out.1.1, z5.out.2.prod⟩ ?_
      rotate_left
      · intro w hSw; (try dsimp only at hSw); go_simp; try with_reducible rfl
      try simp only [Act.put, List.getElem_toArray, List.getElem_cons_zero, List.getElem_cons_succ, List.setIfInBounds_toArray, List.set_cons_zero, List.set_cons_succ]
      refine wpAnyH_ready (rs := [10]) (by kernel_rfl) (by simp) ?_
      refine AllReadyH.cons rfl (fun K hK => ?_) AllReadyH.nil
      try simp only [List.getElem_toArray, List.getElem_cons_zero, List.getElem_cons_succ]
      rw [if_pos (by rfl)]
      refine wp_store_row _ _ _ rfl _ _ rfl rfl _ _ (n9.out) size_three rfl (three_one _) ?_
      have z10 : Hid (Rows2 w ((y5).setRow (y4.drewN 1).heap.size (three d)) 69 (three x) 69 (three 0) ∧ RowAt ((y5).setRow (y4.drewN 1).heap.size (three d)) G 175 (gtrow va vb vc s t (p * q) n)) := Lib.hid ⟨⟨z9.out.1.1.setRowOther _ _ hx5, z9.out.1.2.1.setRowOther _ _ hx6, below_setRow z9.out.1.2.2 hx8 _⟩, z9.out.2.setRowOther _ _ hx7⟩
      have n10 := Lib.hid (n9.out.setRow (three d))
      refine hK.out _ _ (⟨z10.out.1.1, z10.out.2.prod⟩) (fun _ => ?_)
      clear hK K
      try simp only [Act.put, List.getElem_toArray, List.getElem_cons_zero, List.getElem_cons_succ, List.setIfInBounds_toArray, List.set_cons_zero, List.set_cons_succ]
      refine wpAnyH_ready (rs := [11]) (by kernel_rfl) (by simp) ?_
      refine AllReadyH.cons rfl (fun K hK => ?_) AllReadyH.nil
      try simp only [List.getElem_toArray, List.getElem_cons_zero, List.getElem_cons_succ]
      rw [if_pos (by rfl)]
      go_wp2_with fail
      refine hK.out _ _ (⟨z10.out.1.1, z10.out.2.prod⟩) (fun _ => ?_)
      clear hK K
      try simp only [Act.put, List.getElem_toArray, List.getElem_cons_zero, List.getElem_cons_succ, List.setIfInBounds_toArray, List.set_cons_zero, List.set_cons_succ]
      refine wpAnyH_done (by kernel_rfl) ?_ _
      go_wp2_with (first | (refine wpList_load_row rfl _ _ rfl _ rfl _ _ _ _ (n10.out) Tryz.underlying69 rfl size_three ?_) | (refine wpList_store_row rfl _ _ _ rfl _ _ rfl rfl _ _ (z10.out.1.2.1) size_three rfl (three_one _) ?_))
      refine bodyPost_ret (results_cell_row rfl _ _ _ _ _ _ _ rfl (z10.out.1.2.1.setRow _) Tryz.underlying69 rfl size_three) (by rfl) ?_
      exact ⟨rfl, below_setRow z10.out.1.2.2 (by omega) _⟩
set_option maxHeartbeats 2000000 in
set_option maxRecDepth 100000 in
theorem tcentre_nil (x : Nat) (hx : x < 6277101735386680763835789423207666416102355444464034512896) (w : World) :
    Calls Tryz.prog 65 #[.pointer none, .agg (three x)] w fun e w' => e = .returned (.agg (three x)) ∧ Below w.heap.size w w' := by
  have hz := (zero_of_info info_three).1
  have HPd : Hid (∀ W, Rows2 w W 69 (three x) 69 (three 0) → Calls Tryz.prog 78 #[.pointer none] W fun e w' => e = .returned (.agg (three 0)) ∧ Below W.heap.size W w') := Lib.hid (fun W hW => tprod_nil W)
  have HRt : Hid (∀ W, Calls Tryz.prog 127 #[.agg (three 0), .int .i64 1] W fun e w' => e = .returned (.agg (three 0)) ∧ Below W.heap.size W w') := Lib.hid (fun W => lright_any 0 (by omega) W)
  have HCm : Hid (∀ W, Calls Tryz.prog 77 #[.agg (three x), .agg (three 0)] W fun e w' => e = .returned (.int .i64 (cmpN x 0)) ∧ Below W.heap.size W w') := Lib.hid (fun W => lcmp_any x 0 hx (by omega) W)
  have hcm := cmp_le x 0
  obtain ⟨k, hk⟩ : ∃ k, k = cmpN x 0 := ⟨_, rfl⟩
  rw [← hk] at HCm hcm
  have HKp : Hid (∀ W W', Rows2 w W 69 (three x) 69 (three 0) → Below W.heap.size W W' → Rows2 w W' 69 (three x) 69 (three 0)) := Lib.hid (fun W W' h hB => ⟨h.1.keep hB, h.2.1.keep hB, h.2.2.trans (hB.mono h.2.2.size)⟩)
  have HR0 : Hid (Rows2 w (((w.alloc (.cells (three x) 69)).alloc (.cells (three 0) 69)).drewN 1) 69 (three x) 69 (three 0)) := Lib.hid ⟨(Rows2.new w 69 (three x) 69 (three 0)).1, (Rows2.new w 69 (three x) 69 (three 0)).2.1, below_drewN (Rows2.new w 69 (three x) 69 (three 0)).2.2 1⟩
  clear hx hk
  by_cases hle : x ≤ 0
  · rw [decide_eq_true hle] at hcm
    clear hle
    go_enter Tryz.func65, Tryz.ntmps65
    go_wp2_with fail
    generalize ((w.alloc (.cells (three x) 69)).alloc (.cells (three 0) 69)) = w1 at *
    change (Code.region _ _ true).wp _ _ _ _
    refine wp_region_held_drew (S := fun wz => RowAt wz w.heap.size 69 (three x)) (by kernel_rfl) (HR0.out.1) (fun hHeld => ?_)
    refine wpAnyH_take (i := 0) rfl (by kernel_rfl) (by kernel_rfl) (by kernel_rfl) (fun _ _ _ h => h) (yieldsIf_load_row (by rfl) _ _ rfl _ rfl _ _ _ (fun wz h => h) Tryz.underlying69 rfl size_three) (by first | assumption | exact z4.out.1) ?_
    try simp only [Act.put, List.getElem_toArray, List.getElem_cons_zero, List.getElem_cons_succ, List.setIfInBounds_toArray, List.set_cons_zero, List.set_cons_succ]
    refine wpAnyH_take (i := 1) (v := ?_) rfl (by kernel_rfl) (by kernel_rfl) (by kernel_rfl) (fun _ _ _ h => h) (Or.inl ⟨by rfl, ?_⟩) (by first | assumption | exact z4.out.1) ?_
    rotate_left
    · intro w hSw; (try dsimp only at hSw); go_simp; try with_reducible rfl
    try simp only [Act.put, List.getElem_toArray, List.getElem_cons_zero, List.getElem_cons_succ, List.setIfInBounds_toArray, List.set_cons_zero, List.set_cons_succ]
    refine wpAnyH_ready (rs := [2]) (by kernel_rfl) (by simp) ?_
    refine AllReadyH.cons rfl (fun K hK => ?_) AllReadyH.nil
    try simp only [List.getElem_toArray, List.getElem_cons_zero, List.getElem_cons_succ]
    rw [if_pos (by rfl)]
    go_wp2_with (go_at_call 78; refine (HPd.out _ HR0.out).mono ?_; rintro e y2 ⟨rfl, hY2⟩)
    have z2 := Lib.hid (HKp.out _ _ HR0.out hY2)
    clear hY2
    refine hK.out _ _ (z2.out.1) (fun _ => ?_)
    clear hK K
    try simp only [Act.put, List.getElem_toArray, List.getElem_cons_zero, List.getElem_cons_succ, List.setIfInBounds_toArray, List.set_cons_zero, List.set_cons_succ]
    refine wpAnyH_ready (rs := [3]) (by kernel_rfl) (by simp) ?_
    refine AllReadyH.cons rfl (fun K hK => ?_) AllReadyH.nil
    try simp only [List.getElem_toArray, List.getElem_cons_zero, List.getElem_cons_succ]
    rw [if_pos (by rfl)]
    go_wp2_with (go_at_call 127; refine (HRt.out _).mono ?_; rintro e y3 ⟨rfl, hY3⟩)
    have z3 := Lib.hid (HKp.out _ _ z2.out hY3)
    clear hY3
    refine hK.out _ _ (z3.out.1) (fun _ => ?_)
    clear hK K
    try simp only [Act.put, List.getElem_toArray, List.getElem_cons_zero, List.getElem_cons_succ, List.setIfInBounds_toArray, List.set_cons_zero, List.set_cons_succ]
    refine wpAnyH_ready (rs := [4]) (by kernel_rfl) (by simp) ?_
    refine AllReadyH.cons rfl (fun K hK => ?_) AllReadyH.nil
    try simp only [List.getElem_toArray, List.getElem_cons_zero, List.getElem_cons_succ]
    rw [if_pos (by rfl)]
    go_wp2_with (go_at_call 77; refine (HCm.out _).mono ?_; rintro e y4 ⟨rfl, hY4⟩)
    have z4 := Lib.hid (HKp.out _ _ z3.out hY4)
    clear hY4
    refine hK.out _ _ (z4.out.1) (fun _ => ?_)
    clear hK K
    try simp only [Act.put, List.getElem_toArray, List.getElem_cons_zero, List.getElem_cons_succ, List.setIfInBounds_toArray, List.set_cons_zero, List.set_cons_succ]
    refine wpAnyH_take (i := 5) (v := ?_) rfl (by kernel_rfl) (by kernel_rfl) (by kernel_rfl) (fun _ _ _ h => h) (Or.inl ⟨by rfl, ?_⟩) (by first | assumption | exact z4.out.1) ?_
    rotate_left
    · intro w hSw; (try dsimp only at hSw); go_simp; try with_reducible rfl
    try simp only [Act.put, List.getElem_toArray, List.getElem_cons_zero, List.getElem_cons_succ, List.setIfInBounds_toArray, List.set_cons_zero, List.set_cons_succ]
    refine wpAnyH_take (i := 6) (v := ?_) rfl (by kernel_rfl) (by kernel_rfl) (by kernel_rfl) (fun _ _ _ h => h) (Or.inl ⟨by rfl, ?_⟩) (by first | assumption | exact z4.out.1) ?_
    rotate_left
    · intro w hSw; (try dsimp only at hSw); go_simp; try with_reducible rfl
    try simp only [Act.put, List.getElem_toArray, List.getElem_cons_zero, List.getElem_cons_succ, List.setIfInBounds_toArray, List.set_cons_zero, List.set_cons_succ]
    refine wpAnyH_take (i := 7) (v := undef) rfl (by kernel_rfl) (by kernel_rfl) (by kernel_rfl) (fun _ _ _ h => h) (Or.inr ⟨by rfl, rfl⟩) z4.out.1 ?_
    try simp only [Act.put, List.getElem_toArray, List.getElem_cons_zero, List.getElem_cons_succ, List.setIfInBounds_toArray, List.set_cons_zero, List.set_cons_succ]
    refine wpAnyH_take (i := 8) (v := undef) rfl (by kernel_rfl) (by kernel_rfl) (by kernel_rfl) (fun _ _ _ h => h) (Or.inr ⟨by rfl, rfl⟩) z4.out.1 ?_
    try simp only [Act.put, List.getElem_toArray, List.getElem_cons_zero, List.getElem_cons_succ, List.setIfInBounds_toArray, List.set_cons_zero, List.set_cons_succ]
    refine wpAnyH_take (i := 9) (v := ?_) rfl (by kernel_rfl) (by kernel_rfl) (by kernel_rfl) (fun _ _ _ h => h) (Or.inl ⟨by rfl, ?_⟩) (by first | assumption | exact z4.out.1) ?_
    rotate_left
    · intro w hSw; (try dsimp only at hSw); go_simp; try with_reducible rfl
    try simp only [Act.put, List.getElem_toArray, List.getElem_cons_zero, List.getElem_cons_succ, List.setIfInBounds_toArray, List.set_cons_zero, List.set_cons_succ]
    refine wpAnyH_done (by kernel_rfl) ?_ _
    go_wp2_with (first | (refine wpList_load_row rfl _ _ rfl _ rfl _ _ _ _ (z4.out.1) Tryz.underlying69 rfl size_three ?_) | (refine wpList_store_row rfl _ _ _ rfl _ _ rfl rfl _ _ (z4.out.2.1) size_three rfl (three_one _) ?_))
    refine bodyPost_ret (results_cell_row rfl _ _ _ _ _ _ _ rfl (z4.out.2.1.setRow _) Tryz.underlying69 rfl size_three) (by rfl) ?_
    exact ⟨rfl, below_setRow z4.out.2.2 (by omega) _⟩
  · rw [decide_eq_false hle] at hcm
    clear hle
    go_enter Tryz.func65, Tryz.ntmps65
    go_wp2_with fail
    generalize ((w.alloc (.cells (three x) 69)).alloc (.cells (three 0) 69)) = w1 at *
    change (Code.region _ _ true).wp _ _ _ _
    refine wp_region_held_drew (S := fun wz => RowAt wz w.heap.size 69 (three x)) (by kernel_rfl) (HR0.out.1) (fun hHeld => ?_)
    refine wpAnyH_take (i := 0) rfl (by kernel_rfl) (by kernel_rfl) (by kernel_rfl) (fun _ _ _ h => h) (yieldsIf_load_row (by rfl) _ _ rfl _ rfl _ _ _ (fun wz h => h) Tryz.underlying69 rfl size_three) (by first | assumption | exact z4.out.1) ?_
    try simp only [Act.put, List.getElem_toArray, List.getElem_cons_zero, List.getElem_cons_succ, List.setIfInBounds_toArray, List.set_cons_zero, List.set_cons_succ]
    refine wpAnyH_take (i := 1) (v := ?_) rfl (by kernel_rfl) (by kernel_rfl) (by kernel_rfl) (fun _ _ _ h => h) (Or.inl ⟨by rfl, ?_⟩) (by first | assumption | exact z4.out.1) ?_
    rotate_left
    · intro w hSw; (try dsimp only at hSw); go_simp; try with_reducible rfl
    try simp only [Act.put, List.getElem_toArray, List.getElem_cons_zero, List.getElem_cons_succ, List.setIfInBounds_toArray, List.set_cons_zero, List.set_cons_succ]
    refine wpAnyH_ready (rs := [2]) (by kernel_rfl) (by simp) ?_
    refine AllReadyH.cons rfl (fun K hK => ?_) AllReadyH.nil
    try simp only [List.getElem_toArray, List.getElem_cons_zero, List.getElem_cons_succ]
    rw [if_pos (by rfl)]
    go_wp2_with (go_at_call 78; refine (HPd.out _ HR0.out).mono ?_; rintro e y2 ⟨rfl, hY2⟩)
    have z2 := Lib.hid (HKp.out _ _ HR0.out hY2)
    clear hY2
    refine hK.out _ _ (z2.out.1) (fun _ => ?_)
    clear hK K
    try simp only [Act.put, List.getElem_toArray, List.getElem_cons_zero, List.getElem_cons_succ, List.setIfInBounds_toArray, List.set_cons_zero, List.set_cons_succ]
    refine wpAnyH_ready (rs := [3]) (by kernel_rfl) (by simp) ?_
    refine AllReadyH.cons rfl (fun K hK => ?_) AllReadyH.nil
    try simp only [List.getElem_toArray, List.getElem_cons_zero, List.getElem_cons_succ]
    rw [if_pos (by rfl)]
    go_wp2_with (go_at_call 127; refine (HRt.out _).mono ?_; rintro e y3 ⟨rfl, hY3⟩)
    have z3 := Lib.hid (HKp.out _ _ z2.out hY3)
    clear hY3
    refine hK.out _ _ (z3.out.1) (fun _ => ?_)
    clear hK K
    try simp only [Act.put, List.getElem_toArray, List.getElem_cons_zero, List.getElem_cons_succ, List.setIfInBounds_toArray, List.set_cons_zero, List.set_cons_succ]
    refine wpAnyH_ready (rs := [4]) (by kernel_rfl) (by simp) ?_
    refine AllReadyH.cons rfl (fun K hK => ?_) AllReadyH.nil
    try simp only [List.getElem_toArray, List.getElem_cons_zero, List.getElem_cons_succ]
    rw [if_pos (by rfl)]
    go_wp2_with (go_at_call 77; refine (HCm.out _).mono ?_; rintro e y4 ⟨rfl, hY4⟩)
    have z4 := Lib.hid (HKp.out _ _ z3.out hY4)
    clear hY4
    refine hK.out _ _ (z4.out.1) (fun _ => ?_)
    clear hK K
    try simp only [Act.put, List.getElem_toArray, List.getElem_cons_zero, List.getElem_cons_succ, List.setIfInBounds_toArray, List.set_cons_zero, List.set_cons_succ]
    refine wpAnyH_take (i := 5) (v := ?_) rfl (by kernel_rfl) (by kernel_rfl) (by kernel_rfl) (fun _ _ _ h => h) (Or.inl ⟨by rfl, ?_⟩) (by first | assumption | exact z4.out.1) ?_
    rotate_left
    · intro w hSw; (try dsimp only at hSw); go_simp; try with_reducible rfl
    try simp only [Act.put, List.getElem_toArray, List.getElem_cons_zero, List.getElem_cons_succ, List.setIfInBounds_toArray, List.set_cons_zero, List.set_cons_succ]
    refine wpAnyH_take (i := 6) (v := ?_) rfl (by kernel_rfl) (by kernel_rfl) (by kernel_rfl) (fun _ _ _ h => h) (Or.inl ⟨by rfl, ?_⟩) (by first | assumption | exact z4.out.1) ?_
    rotate_left
    · intro w hSw; (try dsimp only at hSw); go_simp; try with_reducible rfl
    try simp only [Act.put, List.getElem_toArray, List.getElem_cons_zero, List.getElem_cons_succ, List.setIfInBounds_toArray, List.set_cons_zero, List.set_cons_succ]
    refine wpAnyH_take (i := 7) (v := ?_) rfl (by kernel_rfl) (by kernel_rfl) (by kernel_rfl) (fun _ _ _ h => h) (Or.inl ⟨by rfl, ?_⟩) (by first | assumption | exact z4.out.1) ?_
    rotate_left
    · intro w hSw; (try dsimp only at hSw); go_simp; try with_reducible rfl
    try simp only [Act.put, List.getElem_toArray, List.getElem_cons_zero, List.getElem_cons_succ, List.setIfInBounds_toArray, List.set_cons_zero, List.set_cons_succ]
    refine wpAnyH_take (i := 8) (v := ?_) rfl (by kernel_rfl) (by kernel_rfl) (by kernel_rfl) (fun _ _ _ h => h) (Or.inl ⟨by rfl, ?_⟩) (by first | assumption | exact z4.out.1) ?_
    rotate_left
    · intro w hSw; (try dsimp only at hSw); go_simp; try with_reducible rfl
    try simp only [Act.put, List.getElem_toArray, List.getElem_cons_zero, List.getElem_cons_succ, List.setIfInBounds_toArray, List.set_cons_zero, List.set_cons_succ]
    refine wpAnyH_take (i := 9) (v := ?_) rfl (by kernel_rfl) (by kernel_rfl) (by kernel_rfl) (fun _ _ _ h => h) (Or.inl ⟨by rfl, ?_⟩) (by first | assumption | exact z4.out.1) ?_
    rotate_left
    · intro w hSw; (try dsimp only at hSw); go_simp; try with_reducible rfl
    try simp only [Act.put, List.getElem_toArray, List.getElem_cons_zero, List.getElem_cons_succ, List.setIfInBounds_toArray, List.set_cons_zero, List.set_cons_succ]
    refine wpAnyH_done (by kernel_rfl) ?_ _
    go_wp2_with (first | (refine wpList_load_row rfl _ _ rfl _ rfl _ _ _ _ (z4.out.1) Tryz.underlying69 rfl size_three ?_) | (refine wpList_store_row rfl _ _ _ rfl _ _ rfl rfl _ _ (z4.out.2.1) size_three rfl (three_one _) ?_))
    refine bodyPost_ret (results_cell_row rfl _ _ _ _ _ _ _ rfl (z4.out.2.1.setRow _) Tryz.underlying69 rfl size_three) (by rfl) ?_
    exact ⟨rfl, below_setRow z4.out.2.2 (by omega) _⟩
set_option maxHeartbeats 1000000 in
set_option maxRecDepth 100000 in
theorem tjoin_nil (m : Nat) (w : World) :
    Calls Tryz.prog 125 #[.pointer none, .agg (three m)] w fun e w' => e = .returned (.agg (three 0)) ∧ Below w.heap.size w w' := by
  have hz := (zero_of_info info_three).1
  have R0 := Lib.hid (Rows2.new w 58 (three m) 69 (three 0))
  go_enter Tryz.func125, Tryz.ntmps125
  go_wp2_with (refine wpList_store_row rfl _ _ _ rfl _ _ rfl rfl _ _ (R0.out.2.1) size_three rfl (three_one _) ?_)
  refine bodyPost_ret (results_cell_row rfl _ _ _ _ _ _ _ rfl (R0.out.2.1.setRow _) Tryz.underlying69 rfl size_three) (by rfl) ?_
  exact ⟨rfl, below_setRow R0.out.2.2 (by omega) _⟩
end Go.Proofs.YtemoginoanhjlaaGreat
end

section
/- garner.New. -/
namespace Go.Proofs.YtemoginoanhjlaaGreat
open Go.RowKit
open Alg (Prime)
/-- A field, or none. -/
def FV (w : World) (v : Value) (p : Nat) : Prop := (p = 0 ∧ v = .pointer none) ∨ (3 ≤ p ∧ ∃ b g, v = .pointer (some ⟨b, 0, none⟩) ∧ Fd w w.heap.size v p g ∧ Cert (p : Int) g)
theorem inv_tri {q x : Nat} {t : Int} (hq : Prime q) (h3 : 3 ≤ q) (hx : ¬ q ∣ x) (h : InvOf (q : Int) (x : Int) t) : ∃ s : Nat, t = (s : Int) ∧ s < q ∧ ((s : Int) * x) % q = 1 % (q : Int) := by
  have e : ((x : Int) % (q : Int)).toNat = x % q := by rw [← Int.natCast_emod]; exact Int.toNat_natCast _
  rcases h with ⟨_, h0, h1, h2⟩ | ⟨h0, _⟩
  · exact ⟨t.toNat, (Int.toNat_of_nonneg h0).symm, by omega, by rw [Int.toNat_of_nonneg h0, h2, Int.emod_eq_of_lt (by omega) (by omega)]⟩
  · exfalso
    refine h0 ?_
    rw [e]
    simp only [Int.toNat_natCast]
    exact hq.coprime fun hd => hx ((Nat.dvd_mod_iff (Nat.dvd_refl q)).1 hd)
theorem tri_dvd {p q r : Nat} (hT : Tri p q r) : ¬ q ∣ p ∧ ¬ r ∣ p * q := by
  refine ⟨fun h => hT.pq (hT.hq.eq_of_dvd hT.hp h).symm, fun h => ?_⟩
  rcases hT.hr.dvd_mul h with h | h
  · exact hT.pr (hT.hr.eq_of_dvd hT.hp h).symm
  · exact hT.qr (hT.hr.eq_of_dvd hT.hq h).symm
theorem gtrow_there {w : World} {G : Nat} {t : TypeId} {va vb vc : Value} {s u x y : Nat} (h : RowAt w G t (gtrow va vb vc s u x y)) : w.there G 8 3 := fun j hj => by
  match j, hj with
  | 0, _ => exact ⟨by rw [h.cell (i := 8 + 0) (v := .int .u64 ((y % 18446744073709551616 : Nat) : Int)) rfl]; rfl, h.frozen _⟩
  | 1, _ => exact ⟨by rw [h.cell (i := 8 + 1) (v := .int .u64 ((y / 18446744073709551616 % 18446744073709551616 : Nat) : Int)) rfl]; rfl, h.frozen _⟩
  | 2, _ => exact ⟨by rw [h.cell (i := 8 + 2) (v := .int .u64 ((y / 340282366920938463463374607431768211456 % 18446744073709551616 : Nat) : Int)) rfl]; rfl, h.frozen _⟩
theorem gtrow_there5 {w : World} {G : Nat} {t : TypeId} {va vb vc : Value} {s u x y : Nat} (h : RowAt w G t (gtrow va vb vc s u x y)) : w.there G 5 3 := fun j hj => by
  match j, hj with
  | 0, _ => exact ⟨by rw [h.cell (i := 5 + 0) (v := .int .u64 ((x % 18446744073709551616 : Nat) : Int)) rfl]; rfl, h.frozen _⟩
  | 1, _ => exact ⟨by rw [h.cell (i := 5 + 1) (v := .int .u64 ((x / 18446744073709551616 % 18446744073709551616 : Nat) : Int)) rfl]; rfl, h.frozen _⟩
  | 2, _ => exact ⟨by rw [h.cell (i := 5 + 2) (v := .int .u64 ((x / 340282366920938463463374607431768211456 % 18446744073709551616 : Nat) : Int)) rfl]; rfl, h.frozen _⟩
theorem gtrow_two {w : World} {G : Nat} {t : TypeId} {va vb vc : Value} {s u x y : Nat} (h : RowAt w G t (gtrow va vb vc s u x y)) (z : Nat) : RowAt (w.setCells G 5 (three z).toList) G t (gtrow va vb vc s u z y) :=
  ((h.set 5 (.int .u64 ((z % 18446744073709551616 : Nat) : Int))).set 6 (.int .u64 ((z / 18446744073709551616 % 18446744073709551616 : Nat) : Int))).set 7 (.int .u64 ((z / 340282366920938463463374607431768211456 % 18446744073709551616 : Nat) : Int))
theorem gtrow_prod {w : World} {G : Nat} {t : TypeId} {va vb vc : Value} {s u x y : Nat} (h : RowAt w G t (gtrow va vb vc s u x y)) (z : Nat) : RowAt (w.setCells G 8 (three z).toList) G t (gtrow va vb vc s u x z) :=
  ((h.set 8 (.int .u64 ((z % 18446744073709551616 : Nat) : Int))).set 9 (.int .u64 ((z / 18446744073709551616 % 18446744073709551616 : Nat) : Int))).set 10 (.int .u64 ((z / 340282366920938463463374607431768211456 % 18446744073709551616 : Nat) : Int))
set_option maxHeartbeats 1000000 in
set_option maxRecDepth 100000 in
theorem tnew_nil {w : World} {va vb vc : Value} {p q r : Nat} (ha : FV w va p) (hb : FV w vb q) (hc : FV w vc r) (h : p = 0 ∨ q = 0 ∨ r = 0) :
    Calls Tryz.prog 57 #[va, vb, vc] w fun e w' => e = .returned (.tuple #[.pointer none, .int .i64 2]) ∧ w = w' := by
  rcases ha with ⟨_, rfl⟩ | ⟨h3, b1, _, rfl, _⟩ <;> rcases hb with ⟨_, rfl⟩ | ⟨k3, b2, _, rfl, _⟩ <;> rcases hc with ⟨_, rfl⟩ | ⟨l3, b3, _, rfl, _⟩ <;> first
    | (exfalso; omega)
    | (clear h; go_enter Tryz.func57, Tryz.ntmps57; go_wp2; go_ret2; exact ⟨rfl, rfl⟩)
set_option maxHeartbeats 1000000 in
set_option maxRecDepth 100000 in
theorem tnew_same {w : World} {va vb vc : Value} {p q r : Nat} (ha : FV w va p) (hb : FV w vb q) (hc : FV w vc r) (h0 : 3 ≤ p ∧ 3 ≤ q ∧ 3 ≤ r) (h : p = q ∨ p = r ∨ q = r) :
    Calls Tryz.prog 57 #[va, vb, vc] w fun e w' => e = .returned (.tuple #[.pointer none, .int .i64 1]) ∧ w = w' := by
  rcases ha with ⟨h1, _⟩ | ⟨h3, b1, g1, rfl, hFa, hCa⟩
  · omega
  rcases hb with ⟨h1, _⟩ | ⟨k3, b2, g2, rfl, hFb, hCb⟩
  · omega
  rcases hc with ⟨h1, _⟩ | ⟨l3, b3, g3, rfl, hFc, hCc⟩
  · omega
  have HA := Lib.hid (fP_fd hFa)
  have HBb := Lib.hid (fP_fd hFb)
  have HC := Lib.hid (fP_fd hFc)
  clear hFa hFb hFc hCa hCb hCc
  by_cases e1 : p = q
  · subst e1
    clear h
    go_enter Tryz.func57, Tryz.ntmps57
    go_wp2_with fail
    refine (HA.out).mono ?_
    rintro e w7 ⟨rfl, rfl⟩
    go_wp2_with fail
    refine (HBb.out).mono ?_
    rintro e w7 ⟨rfl, rfl⟩
    go_wp2
    go_ret2
    exact ⟨rfl, rfl⟩
  · have t1 : ((p : Int) == (q : Int)) = false := beq_eq_false_iff_ne.2 (by omega)
    by_cases e2 : p = r
    · subst e2
      clear h
      go_enter Tryz.func57, Tryz.ntmps57
      go_wp2_with fail
      refine (HA.out).mono ?_
      rintro e w7 ⟨rfl, rfl⟩
      go_wp2_with fail
      refine (HBb.out).mono ?_
      rintro e w7 ⟨rfl, rfl⟩
      go_wp2_with fail
      refine (HA.out).mono ?_
      rintro e w7 ⟨rfl, rfl⟩
      go_wp2_with fail
      refine (HC.out).mono ?_
      rintro e w7 ⟨rfl, rfl⟩
      go_wp2
      go_ret2
      exact ⟨rfl, rfl⟩
    · have t2 : ((p : Int) == (r : Int)) = false := beq_eq_false_iff_ne.2 (by omega)
      obtain rfl : q = r := by omega
      clear h
      go_enter Tryz.func57, Tryz.ntmps57
      go_wp2_with fail
      refine (HA.out).mono ?_
      rintro e w7 ⟨rfl, rfl⟩
      go_wp2_with fail
      refine (HBb.out).mono ?_
      rintro e w7 ⟨rfl, rfl⟩
      go_wp2_with fail
      refine (HA.out).mono ?_
      rintro e w7 ⟨rfl, rfl⟩
      go_wp2_with fail
      refine (HC.out).mono ?_
      rintro e w7 ⟨rfl, rfl⟩
      go_wp2_with fail
      refine (HBb.out).mono ?_
      rintro e w7 ⟨rfl, rfl⟩
      go_wp2_with fail
      refine (HC.out).mono ?_
      rintro e w7 ⟨rfl, rfl⟩
      go_wp2
      go_ret2
      exact ⟨rfl, rfl⟩
set_option maxHeartbeats 2000000 in
set_option maxRecDepth 100000 in
theorem tnew_yes {w : World} {va vb vc : Value} {p q r : Nat} (ha : FV w va p) (hb : FV w vb q) (hc : FV w vc r) (hT : Tri p q r) :
    Calls Tryz.prog 57 #[va, vb, vc] w fun e w' => ∃ v, e = .returned (.tuple #[v, .int .i64 0]) ∧ TrioP w' w'.heap.size v p q r ∧ Below w.heap.size w w' := by
  have p3 := hT.p3
  have q3 := hT.q3
  have r3 := hT.r3
  rcases ha with ⟨h1, _⟩ | ⟨h3, b1, g1, rfl, hFa, hCa⟩
  · omega
  rcases hb with ⟨h1, _⟩ | ⟨k3, b2, g2, rfl, hFb, hCb⟩
  · omega
  rcases hc with ⟨h1, _⟩ | ⟨l3, b3, g3, rfl, hFc, hCc⟩
  · omega
  have hpq := hT.pq
  have hpr := hT.pr
  have hqr := hT.qr
  have t1 : ((p : Int) == (q : Int)) = false := beq_eq_false_iff_ne.2 (by omega)
  have t2 : ((p : Int) == (r : Int)) = false := beq_eq_false_iff_ne.2 (by omega)
  have t3 : ((q : Int) == (r : Int)) = false := beq_eq_false_iff_ne.2 (by omega)
  have HFa : Hid (∀ W, Below w.heap.size w W → Fd W w.heap.size (.pointer (some ⟨b1, 0, none⟩)) p g1) := Lib.hid (fun W hW => hFa.below hW)
  have HFb : Hid (∀ W, Below w.heap.size w W → Fd W w.heap.size (.pointer (some ⟨b2, 0, none⟩)) q g2) := Lib.hid (fun W hW => hFb.below hW)
  have HFc : Hid (∀ W, Below w.heap.size w W → Fd W w.heap.size (.pointer (some ⟨b3, 0, none⟩)) r g3) := Lib.hid (fun W hW => hFc.below hW)
  have HA := Lib.hid (fP_fd hFa)
  have HBb := Lib.hid (fP_fd hFb)
  have HC := Lib.hid (fP_fd hFc)
  have HCa := Lib.hid hCa
  have HCb := Lib.hid hCb
  have HCc := Lib.hid hCc
  clear hFa hFb hFc hpq hpr hqr hCa hCb hCc
  go_enter Tryz.func57, Tryz.ntmps57
  go_wp2_with fail
  refine (HA.out).mono ?_
  rintro e w7 ⟨rfl, rfl⟩
  go_wp2_with fail
  refine (HBb.out).mono ?_
  rintro e w7 ⟨rfl, rfl⟩
  go_wp2_with fail
  refine (HA.out).mono ?_
  rintro e w7 ⟨rfl, rfl⟩
  go_wp2_with fail
  refine (HC.out).mono ?_
  rintro e w7 ⟨rfl, rfl⟩
  go_wp2_with fail
  refine (HBb.out).mono ?_
  rintro e w7 ⟨rfl, rfl⟩
  go_wp2_with fail
  refine (HC.out).mono ?_
  rintro e w7 ⟨rfl, rfl⟩
  obtain ⟨R0, hB0⟩ := lay1 w 175 #[.pointer (some ⟨b1, 0, none⟩), .pointer (some ⟨b2, 0, none⟩), .pointer (some ⟨b3, 0, none⟩), .int .u64 0, .int .u64 0, .int .u64 0, .int .u64 0, .int .u64 0, .int .u64 0, .int .u64 0, .int .u64 0]
  have HR0 : Hid (RowAt (w.alloc (.cells #[.pointer (some ⟨b1, 0, none⟩), .pointer (some ⟨b2, 0, none⟩), .pointer (some ⟨b3, 0, none⟩), .int .u64 0, .int .u64 0, .int .u64 0, .int .u64 0, .int .u64 0, .int .u64 0, .int .u64 0, .int .u64 0] 175)) w.heap.size 175 (gtrow (.pointer (some ⟨b1, 0, none⟩)) (.pointer (some ⟨b2, 0, none⟩)) (.pointer (some ⟨b3, 0, none⟩)) 0 0 0 0)) := Lib.hid R0
  have HB0 := Lib.hid hB0
  clear R0 hB0 HA HBb HC
  go_wp2_with fail
  generalize w.alloc (.cells #[.pointer (some ⟨b1, 0, none⟩), .pointer (some ⟨b2, 0, none⟩), .pointer (some ⟨b3, 0, none⟩), .int .u64 0, .int .u64 0, .int .u64 0, .int .u64 0, .int .u64 0, .int .u64 0, .int .u64 0, .int .u64 0] 175) = w1 at *
  refine (fP_fd (HFa.out _ HB0.out)).mono ?_
  rintro e w7 ⟨rfl, rfl⟩
  go_wp2_with fail
  refine (finv_fd (HFb.out _ HB0.out) (p : Int) (by omega) (by have := hT.pm; omega)).mono ?_
  rintro e w2 ⟨⟨n2, rfl⟩, t2', rfl, hI⟩
  obtain ⟨s, rfl, hs1, hs2⟩ := inv_tri hT.hq q3 (tri_dvd hT).1 hI
  have HS := Lib.hid (And.intro hs1 hs2)
  have e0 := (HR0.out.drewN n2).cell (i := 3) (v := .int .u64 0) rfl
  have e1 := (HR0.out.drewN n2).frozen 3
  have HR2 : Hid (RowAt ((w1.drewN n2).setCell ⟨w.heap.size, 3, none⟩ (.int .u64 (s : Int))) w.heap.size 175 (gtrow (.pointer (some ⟨b1, 0, none⟩)) (.pointer (some ⟨b2, 0, none⟩)) (.pointer (some ⟨b3, 0, none⟩)) s 0 0 0)) := Lib.hid ((HR0.out.drewN n2).set 3 _)
  have HB2 := Lib.hid (below_setCell (below_drewN HB0.out n2) (Nat.le_refl _) 3 (.int .u64 (s : Int)))
  clear hI hs1 hs2 HR0 HB0
  go_wp2_with fail
  generalize (w1.drewN n2).setCell ⟨w.heap.size, 3, none⟩ (.int .u64 (s : Int)) = w3 at *
  clear e0 e1
  refine (fP_fd (HFa.out _ HB2.out)).mono ?_
  rintro e w7 ⟨rfl, rfl⟩
  go_wp2_with fail
  refine (fP_fd (HFb.out _ HB2.out)).mono ?_
  rintro e w7 ⟨rfl, rfl⟩
  go_wp2_with fail
  refine (fP_fd (HFc.out _ HB2.out)).mono ?_
  rintro e w7 ⟨rfl, rfl⟩
  go_wp2_with fail
  refine (modmul_any (p : Int) (q : Int) (r : Int) _ (by omega) (by have := hT.pm; omega) (by omega) (by have := hT.qm; omega) (by omega) (by have := hT.rm; omega)).mono ?_
  rintro e w4 ⟨rfl, n4, rfl⟩
  have hm0 : (p : Int) * (q : Int) % (r : Int) = ((p * q % r : Nat) : Int) := by rw [Int.natCast_emod, Int.natCast_mul]
  rw [hm0]
  obtain ⟨m, hm⟩ : ∃ m, m = p * q % r := ⟨_, rfl⟩
  have m1 : m < r := by rw [hm]; exact Nat.mod_lt _ (by omega)
  rw [← hm]
  have HM := Lib.hid hm
  clear hm0 hm
  go_wp2_with fail
  refine (finv_fd (HFc.out _ (below_drewN HB2.out n4)) (m : Int) (by omega) (by have := hT.rm; omega)).mono ?_
  rintro e w5 ⟨⟨n5, rfl⟩, t3', rfl, hI⟩
  obtain ⟨t, rfl, ht1, ht2⟩ := inv_tri hT.hr r3 (by rw [HM.out]; exact fun hd => (tri_dvd hT).2 ((Nat.dvd_mod_iff (Nat.dvd_refl r)).1 hd)) hI
  have HTt : Hid (t < r ∧ ((t : Int) * (p * q)) % r = 1 % (r : Int)) := Lib.hid ⟨ht1, by
    rw [HM.out, Int.natCast_emod, Int.natCast_mul] at ht2
    rw [← ht2, Int.mul_emod (t : Int) ((p : Int) * q), Int.mul_emod (t : Int) ((p : Int) * q % r), Int.emod_emod_of_dvd _ (Int.dvd_refl (r : Int))]⟩
  have e0 := (HR2.out.drewN (n4 + n5)).cell (i := 4) (v := .int .u64 0) rfl
  have e1 := (HR2.out.drewN (n4 + n5)).frozen 4
  have HR5 : Hid (RowAt ((w3.drewN (n4 + n5)).setCell ⟨w.heap.size, 4, none⟩ (.int .u64 (t : Int))) w.heap.size 175 (gtrow (.pointer (some ⟨b1, 0, none⟩)) (.pointer (some ⟨b2, 0, none⟩)) (.pointer (some ⟨b3, 0, none⟩)) s t 0 0)) := Lib.hid ((HR2.out.drewN (n4 + n5)).set 4 _)
  have HB5 := Lib.hid (below_setCell (below_drewN HB2.out (n4 + n5)) (Nat.le_refl _) 4 (.int .u64 (t : Int)))
  obtain ⟨n, hn⟩ : ∃ n, n = p * q := ⟨_, rfl⟩
  obtain ⟨N, hN⟩ : ∃ N, N = n * r := ⟨_, rfl⟩
  have HS8 : Hid (∀ W, Calls Tryz.prog 75 #[.agg #[.int .u64 (p : Int), .int .u64 0, .int .u64 0], .int .u64 (q : Int)] W fun e w' => (∃ c, e = .returned (.tuple #[.agg (three n), .int .u64 c])) ∧ Below W.heap.size W w') := Lib.hid (fun W => by
    have h := lscale_any p q (by have := hT.qm; omega) W
    have e1 : three p = #[.int .u64 (p : Int), .int .u64 0, .int .u64 0] := by
      have h := three_words (a := p) (b := 0) (c := 0) (by have := hT.pm; omega) (by omega) (by omega)
      simpa using h
    rw [e1, ← hn] at h
    exact h.mono fun e w' hh => ⟨⟨_, hh.1⟩, hh.2⟩)
  have HS9' : Hid (∀ W, Calls Tryz.prog 75 #[.agg (tl n).toArray, .int .u64 (r : Int)] W fun e w' => (∃ c, e = .returned (.tuple #[.agg (three N), .int .u64 c])) ∧ Below W.heap.size W w') := Lib.hid (fun W => by
    have h := lscale_any n r (by have := hT.rm; omega) W
    rw [← hN] at h
    exact h.mono fun e w' hh => ⟨⟨_, hh.1⟩, hh.2⟩)
  have HNN := Lib.hid (And.intro hn hN)
  clear hI ht1 ht2 HR2 HB2 hn hN
  go_wp2_with fail
  generalize (w3.drewN (n4 + n5)).setCell ⟨w.heap.size, 4, none⟩ (.int .u64 (t : Int)) = w6 at *
  clear e0 e1
  refine (fP_fd (HFa.out _ HB5.out)).mono ?_
  rintro e w7 ⟨rfl, rfl⟩
  go_wp2_with fail
  refine (fP_fd (HFb.out _ HB5.out)).mono ?_
  rintro e w7 ⟨rfl, rfl⟩
  go_wp2_with fail
  refine (HS8.out _).mono ?_
  rintro e w8 ⟨⟨c8, rfl⟩, hB8⟩
  have HR8 := Lib.hid (HR5.out.keep hB8)
  have HB8 := Lib.hid (HB5.out.trans (hB8.mono HB5.out.size))
  clear hB8 HR5 HB5
  go_wp2_with (refine wpList_store_mid rfl _ _ _ rfl _ _ (three n) rfl rfl (gtrow_there5 HR8.out) (by exact size_three) (three_one _) ?_)
  have HZ8 : Hid (RowAt ((w8.setCells w.heap.size 5 (three n).toList).drewN 1) w.heap.size 175 (gtrow (.pointer (some ⟨b1, 0, none⟩)) (.pointer (some ⟨b2, 0, none⟩)) (.pointer (some ⟨b3, 0, none⟩)) s t n 0) ∧ Below w.heap.size w ((w8.setCells w.heap.size 5 (three n).toList).drewN 1)) := Lib.hid ⟨(gtrow_two HR8.out n).drewN 1, below_drewN (below_setCells (Nat.le_refl _) (three n).toList 5 _ HB8.out) 1⟩
  generalize w8.setCells w.heap.size 5 (three n).toList = w9 at *
  have HS9 : Hid (∀ W, Calls Tryz.prog 75 #[.agg (tl n).toArray, .int .u64 (r : Int)] W fun e w' => (e = .returned (.tuple #[.agg (three N), .int .u64 (cyM n r 3 : Nat)])) ∧ Below W.heap.size W w') := Lib.hid (fun W => by
    have h := lscale_any n r (by have := hT.rm; omega) W
    rw [← HNN.out.2] at h
    exact h)
  clear HS9' HS8 HR8 HB8
  try simp only [Act.put]
  change (Code.region _ _ true).wp _ _ _ _
  refine wp_region_held_drew (S := fun wz => wz.rangeAt w.heap.size 5 (tl n)) (by kernel_rfl) (HZ8.out.1.two) (fun hHeld => ?_)
  refine wpAnyH_take (i := 0) (v := ?_) rfl (by kernel_rfl) (by kernel_rfl) (by kernel_rfl) (fun _ _ _ h => h) (Or.inl ⟨by rfl, ?_⟩) (by assumption) ?_
  rotate_left
  · intro w hSw; (try dsimp only at hSw); go_simp; try with_reducible rfl
  try simp only [Act.put, List.getElem_toArray, List.getElem_cons_zero, List.getElem_cons_succ, List.setIfInBounds_toArray, List.set_cons_zero, List.set_cons_succ]
  refine wpAnyH_take (i := 1) (v := ?_) rfl (by kernel_rfl) (by kernel_rfl) (by kernel_rfl) (fun _ _ _ h => h) (Or.inl ⟨by rfl, ?_⟩) (by assumption) ?_
  rotate_left
  · intro w hSw; (try dsimp only at hSw); go_simp; try with_reducible rfl
  try simp only [Act.put, List.getElem_toArray, List.getElem_cons_zero, List.getElem_cons_succ, List.setIfInBounds_toArray, List.set_cons_zero, List.set_cons_succ]
  refine wpAnyH_take (i := 2) (v := ?_) rfl (by kernel_rfl) (by kernel_rfl) (by kernel_rfl) (fun _ _ _ h => h) (Or.inl ⟨by rfl, ?_⟩) (by assumption) ?_
  rotate_left
  · intro w hSw; (try dsimp only at hSw); go_simp; try with_reducible rfl
  try simp only [Act.put, List.getElem_toArray, List.getElem_cons_zero, List.getElem_cons_succ, List.setIfInBounds_toArray, List.set_cons_zero, List.set_cons_succ]
  refine wpAnyH_take (i := 3) (v := ?_) rfl (by kernel_rfl) (by kernel_rfl) (by kernel_rfl) (fun _ _ _ h => h) (Or.inl ⟨by rfl, ?_⟩) (by assumption) ?_
  rotate_left
  · intro w hSw; (try dsimp only at hSw); go_simp; try with_reducible rfl
  try simp only [Act.put, List.getElem_toArray, List.getElem_cons_zero, List.getElem_cons_succ, List.setIfInBounds_toArray, List.set_cons_zero, List.set_cons_succ]
  refine wpAnyH_take (i := 4) rfl (by kernel_rfl) (by kernel_rfl) (by kernel_rfl) (fun _ _ _ h => h) (yieldsIf_load_mid (by rfl) _ _ rfl _ _ rfl _ _ (fun wz h => h) Tryz.underlying69 rfl (by exact size_three)) (by assumption) ?_
  try simp only [Act.put, List.getElem_toArray, List.getElem_cons_zero, List.getElem_cons_succ, List.setIfInBounds_toArray, List.set_cons_zero, List.set_cons_succ]
  refine wpAnyH_take (i := 5) (v := ?_) rfl (by kernel_rfl) (by kernel_rfl) (by kernel_rfl) (fun _ _ _ h => h) (Or.inl ⟨by rfl, ?_⟩) (by assumption) ?_
  rotate_left
  · intro w hSw; (try dsimp only at hSw); go_simp; try with_reducible rfl
  try simp only [Act.put, List.getElem_toArray, List.getElem_cons_zero, List.getElem_cons_succ, List.setIfInBounds_toArray, List.set_cons_zero, List.set_cons_succ]
  refine wpAnyH_ready (rs := [6]) (by kernel_rfl) (by simp) ?_
  refine AllReadyH.cons rfl (fun K hK => ?_) AllReadyH.nil
  try simp only [List.getElem_toArray, List.getElem_cons_zero, List.getElem_cons_succ]
  rw [if_pos (by rfl)]
  go_wp2_with fail
  refine (fP_fd (HFc.out _ HZ8.out.2)).mono ?_
  rintro e y6 ⟨rfl, hw⟩
  subst hw
  go_wp2_with fail
  refine hK.out _ _ (HZ8.out.1.two) (fun _ => ?_)
  clear hK K
  try simp only [Act.put, List.getElem_toArray, List.getElem_cons_zero, List.getElem_cons_succ, List.setIfInBounds_toArray, List.set_cons_zero, List.set_cons_succ]
  refine wpAnyH_ready (rs := [7]) (by kernel_rfl) (by simp) ?_
  refine AllReadyH.cons rfl (fun K hK => ?_) AllReadyH.nil
  try simp only [List.getElem_toArray, List.getElem_cons_zero, List.getElem_cons_succ]
  rw [if_pos (by rfl)]
  go_wp2_with fail
  refine (HS9.out _).mono ?_
  rintro e y7 ⟨rfl, hY⟩
  have z7 := Lib.hid (And.intro (HZ8.out.1.keep hY) (HZ8.out.2.trans (hY.mono HZ8.out.2.size)))
  clear hY
  go_wp2_with fail
  refine hK.out _ _ (z7.out.1.two) (fun _ => ?_)
  clear hK K
  try simp only [Act.put, List.getElem_toArray, List.getElem_cons_zero, List.getElem_cons_succ, List.setIfInBounds_toArray, List.set_cons_zero, List.set_cons_succ]
  refine wpAnyH_take (i := 8) (v := ?_) rfl (by kernel_rfl) (by kernel_rfl) (by kernel_rfl) (fun _ _ _ h => h) (Or.inl ⟨by rfl, ?_⟩) z7.out.1.two ?_
  rotate_left
  · intro w hSw; (try dsimp only at hSw); go_simp; try with_reducible rfl
  try simp only [Act.put, List.getElem_toArray, List.getElem_cons_zero, List.getElem_cons_succ, List.setIfInBounds_toArray, List.set_cons_zero, List.set_cons_succ]
  refine wpAnyH_take (i := 9) (v := ?_) rfl (by kernel_rfl) (by kernel_rfl) (by kernel_rfl) (fun _ _ _ h => h) (Or.inl ⟨by rfl, ?_⟩) z7.out.1.two ?_
  rotate_left
  · intro w hSw; (try dsimp only at hSw); go_simp; try with_reducible rfl
  try simp only [Act.put, List.getElem_toArray, List.getElem_cons_zero, List.getElem_cons_succ, List.setIfInBounds_toArray, List.set_cons_zero, List.set_cons_succ]
  refine wpAnyH_take (i := 10) (v := ?_) rfl (by kernel_rfl) (by kernel_rfl) (by kernel_rfl) (fun _ _ _ h => h) (Or.inl ⟨by rfl, ?_⟩) z7.out.1.two ?_
  rotate_left
  · intro w hSw; (try dsimp only at hSw); go_simp; try with_reducible rfl
  try simp only [Act.put, List.getElem_toArray, List.getElem_cons_zero, List.getElem_cons_succ, List.setIfInBounds_toArray, List.set_cons_zero, List.set_cons_succ]
  refine wpAnyH_take (i := 11) (v := ?_) rfl (by kernel_rfl) (by kernel_rfl) (by kernel_rfl) (fun _ _ _ h => h) (Or.inl ⟨by rfl, ?_⟩) z7.out.1.two ?_
  rotate_left
  · intro w hSw; (try dsimp only at hSw); go_simp; try with_reducible rfl
  try simp only [Act.put, List.getElem_toArray, List.getElem_cons_zero, List.getElem_cons_succ, List.setIfInBounds_toArray, List.set_cons_zero, List.set_cons_succ]
  refine wpAnyH_take (i := 12) (v := ?_) rfl (by kernel_rfl) (by kernel_rfl) (by kernel_rfl) (fun _ _ _ h => h) (Or.inl ⟨by rfl, ?_⟩) z7.out.1.two ?_
  rotate_left
  · intro w hSw; (try dsimp only at hSw); go_simp; try with_reducible rfl
  try simp only [Act.put, List.getElem_toArray, List.getElem_cons_zero, List.getElem_cons_succ, List.setIfInBounds_toArray, List.set_cons_zero, List.set_cons_succ]
  refine wpAnyH_ready (rs := [13]) (by kernel_rfl) (by simp) ?_
  refine AllReadyH.cons rfl (fun K hK => ?_) AllReadyH.nil
  try simp only [List.getElem_toArray, List.getElem_cons_zero, List.getElem_cons_succ]
  rw [if_pos (by rfl)]
  refine wp_store_mid _ _ _ rfl _ _ (three N) rfl rfl (gtrow_there z7.out.1) (by exact size_three) (three_one _) ?_
  have z13 := Lib.hid (gtrow_prod z7.out.1 N)
  have zB := Lib.hid (below_setCells (Nat.le_refl _) (three N).toList 8 _ z7.out.2)
  refine hK.out _ _ (z13.out.two) (fun _ => ?_)
  clear hK K
  try simp only [Act.put, List.getElem_toArray, List.getElem_cons_zero, List.getElem_cons_succ, List.setIfInBounds_toArray, List.set_cons_zero, List.set_cons_succ]
  refine wpAnyH_done (by kernel_rfl) ?_ _
  go_wp2
  go_ret2
  have zr := z13.out
  rw [HNN.out.2, HNN.out.1] at zr
  have hsz := zr.lt
  rw [← HNN.out.1, ← HNN.out.2] at zr hsz
  exact ⟨.pointer (some ⟨w.heap.size, 0, none⟩), rfl, ⟨w.heap.size, _, _, _, s, t, g1, g2, g3, rfl, hsz, (HFa.out _ zB.out).mono zB.out.size, (HFb.out _ zB.out).mono zB.out.size, (HFc.out _ zB.out).mono zB.out.size, by rw [← HNN.out.1, ← HNN.out.2]; exact zr, HS.out.1, HTt.out.1, HS.out.2, HTt.out.2, HCa.out, HCb.out, HCc.out⟩, zB.out⟩
end Go.Proofs.YtemoginoanhjlaaGreat
end
