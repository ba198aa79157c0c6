/- Law 18: the document's Choose. -/
import Derived.Test.YtmalmijdjhkklaaGreatPlS
set_option linter.unusedVariables false
set_option linter.unusedSimpArgs false
set_option linter.unusedSectionVars false
set_option linter.unusedVariables false
set_option linter.unusedSimpArgs false
namespace Go.Proofs.YtmalmijdjhkklaaGreat
open Go.RowKit
theorem own_plans {w : World} {B : Nat} {V : Value} {L : List PlT} (h : w.ownsRow B 27 3 V L.length (plcells L)) : ∃ A c G, V = .slice A L.length c ∧ B ≤ G ∧ (0 < L.length → A = some ⟨G, 0, none⟩) ∧
    ∀ j, j < L.length → w.rangeAt G (j * 3) [.int .i64 (L.getD j (0, 0, 0)).1, .int .i64 (L.getD j (0, 0, 0)).2.1, .int .i64 (L.getD j (0, 0, 0)).2.2] := by
  have hown := h
  rcases h.2 with ⟨rfl, hz⟩ | ⟨gb, cap, cur, rfl, hbase, hgb, r1, r2, r3, r4⟩
  · exact ⟨none, 0, B, by rw [hz], Nat.le_refl _, fun h => by omega, fun j hj => by omega⟩
  · refine ⟨_, cap, gb, rfl, hbase, fun _ => rfl, fun j hj => ?_⟩
    obtain ⟨c0, c1, c2⟩ := plcells_get L j hj
    have d0 := hown.cells (g := gb) rfl (j * 3) _ c0
    have d1 := hown.cells (g := gb) rfl (j * 3 + 1) _ c1
    have d2 := hown.cells (g := gb) rfl (j * 3 + 2) _ c2
    have ea : ∀ n, (⟨gb, 0, none⟩ : Addr).add n = ⟨gb, n, none⟩ := fun n => by unfold Addr.add; split <;> simp_all
    rw [ea] at d0 d1 d2
    intro i v hv
    match i, hv with
    | 0, hv => cases hv; exact d0
    | 1, hv => cases hv; exact d1
    | 2, hv => cases hv; exact d2
    | i + 3, hv => simp at hv
/-- Between two rounds of the document's choice. -/
structure RcI (w : World) (G : Nat) (L : List PlT) (b : PlT) (W : World) : Prop where
  below : Below w.heap.size w W
  size : w.heap.size + 2 ≤ W.heap.size
  res : RowAt W w.heap.size 27 (cellsP (0, 0, 0))
  best : RowAt W (w.heap.size + 1) 27 (cellsP b)
  rng : ∀ j, j < L.length → W.rangeAt G (j * 3) [.int .i64 (L.getD j (0, 0, 0)).1, .int .i64 (L.getD j (0, 0, 0)).2.1, .int .i64 (L.getD j (0, 0, 0)).2.2]
  hG : w.heap.size + 2 ≤ G
theorem RcI.keep {w : World} {G : Nat} {L : List PlT} {b : PlT} {W W' : World} (h : RcI w G L b W) (hb : Below W.heap.size W W') : RcI w G L b W' :=
  ⟨h.below.trans (hb.mono h.below.size), Nat.le_trans h.size hb.size, h.res.keep hb, h.best.keep hb, fun j hj i v hv => by
    have h1 := h.rng j hj i v hv
    exact cell_keep hb (World.block_lt_of_cell? _ _ h1) h1, h.hG⟩
theorem RcI.set {w : World} {G : Nat} {L : List PlT} {b : PlT} {W : World} (h : RcI w G L b W) (x : PlT) : RcI w G L x (W.setRow (w.heap.size + 1) (cellsP x)) :=
  ⟨below_setRow h.below (by omega) _, by have := h.size; simpa using this, h.res.setRowOther _ _ (by omega), h.best.setRow _, fun j hj i v hv => by
    have h1 := h.rng j hj i v hv
    have h2 := h.hG
    rw [← h1]
    simp only [World.cell?]
    rw [show (W.setRow (w.heap.size + 1) (cellsP x)).heap[G]? = W.heap[G]? from setRow_other W (w.heap.size + 1) G (cellsP x) (by omega)], h.hG⟩
set_option maxHeartbeats 8000000 in
set_option maxRecDepth 100000 in
theorem r18choose_any (p n k : Int) (p1 : 3 ≤ p) (p2 : p < 9223372036854775808) (n0 : -9223372036854775808 ≤ n) (n1 : n ≤ 9223372036854775807) (w : World) :
    Calls Tryz.prog 26 #[.int .u64 p, .int .i64 n, .int .i64 k] w fun e w' => e = .returned (.tuple #[.agg (cellsP (chP p n k)), .int .i64 (chE p n k)]) ∧ Below w.heap.size w w' := by
  have R1 := Lib.hid (lay1 w 27 #[.int .i64 0, .int .i64 0, .int .i64 0])
  have HCk := Lib.hid (fun W => r11check_any p n 1024 W p1 p2 n0 n1)
  unfold chP chE
  by_cases hc : chk p n 1024 = 0
  case neg =>
    rw [if_neg hc, if_neg hc]
    obtain ⟨c, hcc⟩ : ∃ c, c = chk p n 1024 := ⟨_, rfl⟩
    rw [← hcc] at HCk hc ⊢
    have tc : (c != 0) = true := by simpa using hc
    have R2 := Lib.hid (R1.out.1.setRow #[.int .i64 0, .int .i64 0, .int .i64 0])
    clear hcc hc
    go_enter Tryz.func26, Tryz.ntmps26
    go_wp2_with fail
    refine (HCk.out _).mono ?_
    rintro e w1 ⟨rfl, rfl⟩
    go_wp2_with (refine wpList_store_row rfl _ _ _ rfl _ _ rfl rfl _ _ (R1.out.1) (by exact size_rplan) rfl (plan_one _ _ _) ?_)
    refine bodyPost_ret (results_row_tmp rfl _ _ _ _ _ _ rfl R2.out Tryz.underlying27 rfl (by exact size_rplan)) (by rfl) ?_
    exact ⟨rfl, below_setRow R1.out.2 (Nat.le_refl _) _⟩
  case pos =>
    rw [if_pos hc, if_pos hc]
    have hn := chk_rng hc
    have HA := Lib.hid (fun W => r18all_any p n p1 p2 hn W)
    have HCan : Hid (∀ x ∈ allL p n, CanP x) := Lib.hid (fun x hx => allL_can hn hc hx)
    rw [hc] at HCk
    obtain ⟨L, hL⟩ : ∃ L, L = allL p n := ⟨_, rfl⟩
    rw [← hL] at HA HCan ⊢
    have hLl : L.length ≤ 20000 := by
      rw [hL]
      have := upA_len (p := p) hn 7 (by omega)
      unfold allL
      omega
    obtain ⟨⟨c0, c1, c2⟩, hcc⟩ : ∃ c, c = chF k L := ⟨_, rfl⟩
    obtain ⟨er, her⟩ : ∃ er : Int, er = if chF k L = (0, 0, 0) then 11 else 0 := ⟨_, rfl⟩
    rw [← her, ← hcc]
    rw [← hcc] at her
    have HCc := Lib.hid (chF_can k L (fun y hy => HCan.out y hy))
    rw [← hcc] at HCc
    have HC := Lib.hid hcc
    have HE := Lib.hid her
    clear hc hn hL hcc her
    go_enter Tryz.func26, Tryz.ntmps26
    go_wp2_with fail
    refine (HCk.out _).mono ?_
    rintro e w1 ⟨rfl, rfl⟩
    have R2 := Lib.hid (lay2 w 27 27 #[.int .i64 0, .int .i64 0, .int .i64 0] #[.int .i64 0, .int .i64 0, .int .i64 0])
    go_wp2_with fail
    refine (HA.out _).mono ?_
    rintro e w3 ⟨V, rfl, hown, hB3⟩
    obtain ⟨A, cA, G, rfl, hG, hA, hrng⟩ := own_plans hown
    simp only [World.size_alloc] at hG
    have HI0 : Hid (RcI w G L (chF k (L.take 0)) w3) := Lib.hid ⟨R2.out.2.2.trans (hB3.mono R2.out.2.2.size), by have := hB3.size; simp at this; omega, R2.out.1.keep hB3, R2.out.2.1.keep hB3, hrng, hG⟩
    have HAa := Lib.hid hA
    clear hown hrng hB3 hA R2 R1
    go_wp2
    go_loopw [24] (fun I wr => ∃ j : Nat, I = .int .i64 (j : Int) ∧ j ≤ L.length ∧ RcI w G L (chF k (L.take j)) wr) (fun I _ => L.length - (intOf I).toNat)
    case atStart => exact ⟨0, rfl, by omega, HI0.out⟩
    case round =>
      clear HI0
      obtain ⟨j, rfl, hj, hW⟩ := hrel
      by_cases hlt : j < L.length
      · obtain rfl := HAa.out (by omega)
        have HRa := Lib.hid (hW.rng j hlt)
        have hcx : CanP (L.getD j (0, 0, 0)) := HCan.out _ (by rw [List.getD_eq_getElem?_getD, List.getElem?_eq_getElem hlt]; exact List.getElem_mem hlt)
        have hcb := chF_can k (L.take j) (fun y hy => HCan.out y (List.mem_of_mem_take hy))
        have HChz : Hid (chF k (L.take (j + 1)) = chz k (chF k (L.take j)) (L.getD j (0, 0, 0))) := Lib.hid (by
          rw [← chF_snoc, List.take_add_one, List.getD_eq_getElem?_getD, List.getElem?_eq_getElem hlt]; rfl)
        obtain ⟨⟨x0, x1, x2⟩, hx⟩ : ∃ x, x = L.getD j (0, 0, 0) := ⟨_, rfl⟩
        obtain ⟨⟨b0, b1, b2⟩, hb⟩ : ∃ b, b = chF k (L.take j) := ⟨_, rfl⟩
        rw [← hx] at HRa hcx HChz
        rw [← hb] at hW hcb HChz
        have HW := Lib.hid hW
        have H5 := Lib.hid (RowAt.new wr 27 #[.int .i64 0, .int .i64 0, .int .i64 0])
        have h5s := hW.size
        obtain ⟨X, hX⟩ : ∃ X, X = wr.heap.size := ⟨_, rfl⟩
        have KP : Hid (∀ W W', (RcI w G L (b0, b1, b2) W ∧ RowAt W X 27 #[.int .i64 x0, .int .i64 x1, .int .i64 x2] ∧ w.heap.size + 2 ≤ X) → Below W.heap.size W W' → (RcI w G L (b0, b1, b2) W' ∧ RowAt W' X 27 #[.int .i64 x0, .int .i64 x1, .int .i64 x2] ∧ w.heap.size + 2 ≤ X)) := Lib.hid (fun W W' h hB => ⟨h.1.keep hB, h.2.1.keep hB, h.2.2⟩)
        have z0 : Hid (RcI w G L (b0, b1, b2) (((wr.alloc (.cells #[.int .i64 0, .int .i64 0, .int .i64 0] 27)).setRow X #[.int .i64 x0, .int .i64 x1, .int .i64 x2]).drewN 1) ∧ RowAt (((wr.alloc (.cells #[.int .i64 0, .int .i64 0, .int .i64 0] 27)).setRow X #[.int .i64 x0, .int .i64 x1, .int .i64 x2]).drewN 1) X 27 #[.int .i64 x0, .int .i64 x1, .int .i64 x2] ∧ w.heap.size + 2 ≤ X) := Lib.hid (by
          subst hX
          exact KP.out _ _ ⟨hW.keep (below_setRow ((Below.refl _ wr).alloc (Nat.le_refl _) _) (Nat.le_refl _) _), H5.out.setRow _, by omega⟩ (below_drewN (Below.refl _ _) 1))
        have HX := Lib.hid (fun W => r18cost_any x0 x1 x2 (by have := canB_K hcx; simp at this; omega) (by have := canB_K hcx; simp at this; omega) (by have := canB_N hcx; simp at this; omega) (by have := canB_N hcx; simp at this; omega) (by have := canB_A hcx; simp at this; omega) (by have := canB_A hcx; simp at this; omega) W)
        rw [show canB x0 x1 x2 = true from hcx, if_pos rfl] at HX
        have HB : Hid (CanP (b0, b1, b2) → ∀ W, Calls Tryz.prog 19 #[.agg #[.int .i64 b0, .int .i64 b1, .int .i64 b2]] W fun e w' => e = .returned (.int .i64 (costI b0 b1 b2)) ∧ Below W.heap.size W w') := Lib.hid (fun hcan W => by
          have h := r18cost_any b0 b1 b2 (by have := canB_K hcan; simp at this; omega) (by have := canB_K hcan; simp at this; omega) (by have := canB_N hcan; simp at this; omega) (by have := canB_N hcan; simp at this; omega) (by have := canB_A hcan; simp at this; omega) (by have := canB_A hcan; simp at this; omega) W
          rw [show canB b0 b1 b2 = true from hcan, if_pos rfl] at h
          exact h)
        have HChE : Hid (chz k (b0, b1, b2) (x0, x1, x2) = if (k = -1 ∨ k = x0) ∧ ((b0, b1, b2) = ((0 : Int), (0 : Int), (0 : Int)) ∨ costI x0 x1 x2 < costI b0 b1 b2) then (x0, x1, x2) else (b0, b1, b2)) := Lib.hid rfl
        have HSt : Hid (chz k (b0, b1, b2) (x0, x1, x2) = (b0, b1, b2) → chF k (L.take (j + 1)) = (b0, b1, b2)) := Lib.hid (fun h => by rw [HChz.out, h])
        have HTk : Hid (chz k (b0, b1, b2) (x0, x1, x2) = (x0, x1, x2) → chF k (L.take (j + 1)) = (x0, x1, x2)) := Lib.hid (fun h => by rw [HChz.out, h])
        have HSZ : Hid (∀ wz, (RcI w G L (b0, b1, b2) wz ∧ RowAt wz X 27 #[.int .i64 x0, .int .i64 x1, .int .i64 x2] ∧ w.heap.size + 2 ≤ X) → (wz.cell? ⟨X, 0, none⟩ = some (.int .i64 x0) ∧ wz.cell? ⟨w.heap.size + 1, 1, none⟩ = some (.int .i64 b1) ∧ RowAt wz (w.heap.size + 1) 27 #[.int .i64 b0, .int .i64 b1, .int .i64 b2] ∧ RowAt wz X 27 #[.int .i64 x0, .int .i64 x1, .int .i64 x2])) := Lib.hid (fun wz hz => ⟨hz.2.1.cell rfl, hz.1.best.cell rfl, hz.1.best, hz.2.1⟩)
        obtain ⟨cx, hcxe⟩ : ∃ cx, cx = costI x0 x1 x2 := ⟨_, rfl⟩
        obtain ⟨cb, hcbe⟩ : ∃ cb, cb = costI b0 b1 b2 := ⟨_, rfl⟩
        rw [← hcxe] at HX HChE
        rw [← hcbe] at HB HChE
        have HCb := Lib.hid hcb
        have hi1 : (j : Int) < (L.length : Int) := by omega
        have tl : decide ((j : Int) < (L.length : Int)) = true := decide_eq_true hi1
        have HXe := Lib.hid hX
        clear hcxe hcbe hcx hcb hx hb hW HChz hX HW
        go_upto_region 8 with (first | (refine wpList_load_mid rfl _ _ rfl _ _ rfl _ _ (HRa.out) Tryz.underlying27 rfl (by exact size_rplan) ?_) | (refine wpList_store_row rfl _ _ _ rfl _ _ rfl rfl _ _ (H5.out) (by exact size_rplan) rfl (plan_one _ _ _) ?_))
        rw [← HXe.out]
        clear HXe H5
        by_cases hk : k = -1 ∨ k = x0
        case neg =>
          have hk1 : (k == -1) = false := by rw [beq_eq_false_iff_ne]; exact fun h => hk (.inl h)
          have hk2 : (k == x0) = false := by rw [beq_eq_false_iff_ne]; exact fun h => hk (.inr h)
          have HT : Hid (chz k (b0, b1, b2) (x0, x1, x2) = (b0, b1, b2)) := Lib.hid (by rw [HChE.out, if_neg (fun h => hk h.1)])
          clear hk HTk HChE HB HX HCb
          refine wp_region_held_drew (S := fun wz => wz.cell? ⟨X, 0, none⟩ = some (.int .i64 x0) ∧ wz.cell? ⟨w.heap.size + 1, 1, none⟩ = some (.int .i64 b1) ∧ RowAt wz (w.heap.size + 1) 27 #[.int .i64 b0, .int .i64 b1, .int .i64 b2] ∧ RowAt wz X 27 #[.int .i64 x0, .int .i64 x1, .int .i64 x2]) (by kernel_rfl) (HSZ.out _ z0.out) (fun hHeld => ?_)
          clear hHeld
          refine wpAnyH_take (i := 0) (v := ?_) rfl (by kernel_rfl) (by kernel_rfl) (by kernel_rfl) (fun _ _ _ h => h) (Or.inl ⟨by rfl, ?_⟩) (HSZ.out _ z0.out) ?_
          rotate_left
          · intro w hSw; (try dsimp only at hSw); go_simp; try with_reducible rfl
          try simp only [Act.put, List.getElem_toArray, List.getElem_cons_zero, List.getElem_cons_succ, List.setIfInBounds_toArray, List.set_cons_zero, List.set_cons_succ]
          refine wpAnyH_take (i := 1) (v := ?_) rfl (by kernel_rfl) (by kernel_rfl) (by kernel_rfl) (fun _ _ _ h => h) (Or.inl ⟨by rfl, ?_⟩) (HSZ.out _ z0.out) ?_
          rotate_left
          · intro w hSw; (try dsimp only at hSw); go_simp; try with_reducible rfl
          try simp only [Act.put, List.getElem_toArray, List.getElem_cons_zero, List.getElem_cons_succ, List.setIfInBounds_toArray, List.set_cons_zero, List.set_cons_succ]
          refine wpAnyH_take (i := 2) (v := ?_) rfl (by kernel_rfl) (by kernel_rfl) (by kernel_rfl) (fun _ _ _ h => h) (Or.inl ⟨by rfl, ?_⟩) (HSZ.out _ z0.out) ?_
          rotate_left
          · intro w hSw; (try dsimp only at hSw); go_simp; try with_reducible rfl
          try simp only [Act.put, List.getElem_toArray, List.getElem_cons_zero, List.getElem_cons_succ, List.setIfInBounds_toArray, List.set_cons_zero, List.set_cons_succ]
          refine wpAnyH_take (i := 3) (v := ?_) rfl (by kernel_rfl) (by kernel_rfl) (by kernel_rfl) (fun _ _ _ h => h) (Or.inl ⟨by rfl, ?_⟩) (HSZ.out _ z0.out) ?_
          rotate_left
          · intro w hSw; (try dsimp only at hSw); go_simp; try with_reducible rfl
          try simp only [Act.put, List.getElem_toArray, List.getElem_cons_zero, List.getElem_cons_succ, List.setIfInBounds_toArray, List.set_cons_zero, List.set_cons_succ]
          refine wpAnyH_take (i := 4) (v := ?_) rfl (by kernel_rfl) (by kernel_rfl) (by kernel_rfl) (fun _ _ _ h => h) (Or.inl ⟨by rfl, ?_⟩) (HSZ.out _ z0.out) ?_
          rotate_left
          · intro w hSw; (try dsimp only at hSw); go_simp; try with_reducible rfl
          try simp only [Act.put, List.getElem_toArray, List.getElem_cons_zero, List.getElem_cons_succ, List.setIfInBounds_toArray, List.set_cons_zero, List.set_cons_succ]
          refine wpAnyH_take (i := 5) (v := ?_) rfl (by kernel_rfl) (by kernel_rfl) (by kernel_rfl) (fun _ _ _ h => h) (Or.inl ⟨by rfl, ?_⟩) (HSZ.out _ z0.out) ?_
          rotate_left
          · intro w hSw; (try dsimp only at hSw); go_simp; try with_reducible rfl
          try simp only [Act.put, List.getElem_toArray, List.getElem_cons_zero, List.getElem_cons_succ, List.setIfInBounds_toArray, List.set_cons_zero, List.set_cons_succ]
          refine wpAnyH_take (i := 6) (v := ?_) rfl (by kernel_rfl) (by kernel_rfl) (by kernel_rfl) (fun _ _ _ h => h) (Or.inl ⟨by rfl, ?_⟩) (HSZ.out _ z0.out) ?_
          rotate_left
          · intro w hSw; (try dsimp only at hSw); go_simp; try with_reducible rfl
          try simp only [Act.put, List.getElem_toArray, List.getElem_cons_zero, List.getElem_cons_succ, List.setIfInBounds_toArray, List.set_cons_zero, List.set_cons_succ]
          refine wpAnyH_take (i := 7) (v := ?_) rfl (by kernel_rfl) (by kernel_rfl) (by kernel_rfl) (fun _ _ _ h => h) (Or.inl ⟨by rfl, ?_⟩) (HSZ.out _ z0.out) ?_
          rotate_left
          · intro w hSw; (try dsimp only at hSw); go_simp; try with_reducible rfl
          try simp only [Act.put, List.getElem_toArray, List.getElem_cons_zero, List.getElem_cons_succ, List.setIfInBounds_toArray, List.set_cons_zero, List.set_cons_succ]
          refine wpAnyH_take (i := 8) (v := ?_) rfl (by kernel_rfl) (by kernel_rfl) (by kernel_rfl) (fun _ _ _ h => h) (Or.inl ⟨by rfl, ?_⟩) (HSZ.out _ z0.out) ?_
          rotate_left
          · intro w hSw; (try dsimp only at hSw); go_simp; try with_reducible rfl
          try simp only [Act.put, List.getElem_toArray, List.getElem_cons_zero, List.getElem_cons_succ, List.setIfInBounds_toArray, List.set_cons_zero, List.set_cons_succ]
          refine wpAnyH_take (i := 9) (v := undef) rfl (by kernel_rfl) (by kernel_rfl) (by kernel_rfl) (fun _ _ _ h => h) (Or.inr ⟨by rfl, rfl⟩) (HSZ.out _ z0.out) ?_
          try simp only [Act.put, List.getElem_toArray, List.getElem_cons_zero, List.getElem_cons_succ, List.setIfInBounds_toArray, List.set_cons_zero, List.set_cons_succ]
          refine wpAnyH_take (i := 10) (v := undef) rfl (by kernel_rfl) (by kernel_rfl) (by kernel_rfl) (fun _ _ _ h => h) (Or.inr ⟨by rfl, rfl⟩) (HSZ.out _ z0.out) ?_
          try simp only [Act.put, List.getElem_toArray, List.getElem_cons_zero, List.getElem_cons_succ, List.setIfInBounds_toArray, List.set_cons_zero, List.set_cons_succ]
          refine wpAnyH_take (i := 11) (v := undef) rfl (by kernel_rfl) (by kernel_rfl) (by kernel_rfl) (fun _ _ _ h => h) (Or.inr ⟨by rfl, rfl⟩) (HSZ.out _ z0.out) ?_
          try simp only [Act.put, List.getElem_toArray, List.getElem_cons_zero, List.getElem_cons_succ, List.setIfInBounds_toArray, List.set_cons_zero, List.set_cons_succ]
          refine wpAnyH_take (i := 12) (v := undef) rfl (by kernel_rfl) (by kernel_rfl) (by kernel_rfl) (fun _ _ _ h => h) (Or.inr ⟨by rfl, rfl⟩) (HSZ.out _ z0.out) ?_
          try simp only [Act.put, List.getElem_toArray, List.getElem_cons_zero, List.getElem_cons_succ, List.setIfInBounds_toArray, List.set_cons_zero, List.set_cons_succ]
          refine wpAnyH_take (i := 13) (v := undef) rfl (by kernel_rfl) (by kernel_rfl) (by kernel_rfl) (fun _ _ _ h => h) (Or.inr ⟨by rfl, rfl⟩) (HSZ.out _ z0.out) ?_
          try simp only [Act.put, List.getElem_toArray, List.getElem_cons_zero, List.getElem_cons_succ, List.setIfInBounds_toArray, List.set_cons_zero, List.set_cons_succ]
          refine wpAnyH_take (i := 14) (v := undef) rfl (by kernel_rfl) (by kernel_rfl) (by kernel_rfl) (fun _ _ _ h => h) (Or.inr ⟨by rfl, rfl⟩) (HSZ.out _ z0.out) ?_
          try simp only [Act.put, List.getElem_toArray, List.getElem_cons_zero, List.getElem_cons_succ, List.setIfInBounds_toArray, List.set_cons_zero, List.set_cons_succ]
          refine wpAnyH_take (i := 15) (v := undef) rfl (by kernel_rfl) (by kernel_rfl) (by kernel_rfl) (fun _ _ _ h => h) (Or.inr ⟨by rfl, rfl⟩) (HSZ.out _ z0.out) ?_
          try simp only [Act.put, List.getElem_toArray, List.getElem_cons_zero, List.getElem_cons_succ, List.setIfInBounds_toArray, List.set_cons_zero, List.set_cons_succ]
          refine wpAnyH_take (i := 16) (v := undef) rfl (by kernel_rfl) (by kernel_rfl) (by kernel_rfl) (fun _ _ _ h => h) (Or.inr ⟨by rfl, rfl⟩) (HSZ.out _ z0.out) ?_
          try simp only [Act.put, List.getElem_toArray, List.getElem_cons_zero, List.getElem_cons_succ, List.setIfInBounds_toArray, List.set_cons_zero, List.set_cons_succ]
          refine wpAnyH_take (i := 17) (v := undef) rfl (by kernel_rfl) (by kernel_rfl) (by kernel_rfl) (fun _ _ _ h => h) (Or.inr ⟨by rfl, rfl⟩) (HSZ.out _ z0.out) ?_
          try simp only [Act.put, List.getElem_toArray, List.getElem_cons_zero, List.getElem_cons_succ, List.setIfInBounds_toArray, List.set_cons_zero, List.set_cons_succ]
          refine wpAnyH_take (i := 18) (v := undef) rfl (by kernel_rfl) (by kernel_rfl) (by kernel_rfl) (fun _ _ _ h => h) (Or.inr ⟨by rfl, rfl⟩) (HSZ.out _ z0.out) ?_
          try simp only [Act.put, List.getElem_toArray, List.getElem_cons_zero, List.getElem_cons_succ, List.setIfInBounds_toArray, List.set_cons_zero, List.set_cons_succ]
          refine wpAnyH_take (i := 19) (v := ?_) rfl (by kernel_rfl) (by kernel_rfl) (by kernel_rfl) (fun _ _ _ h => h) (Or.inl ⟨by rfl, ?_⟩) (HSZ.out _ z0.out) ?_
          rotate_left
          · intro w hSw; (try dsimp only at hSw); go_simp; try with_reducible rfl
          try simp only [Act.put, List.getElem_toArray, List.getElem_cons_zero, List.getElem_cons_succ, List.setIfInBounds_toArray, List.set_cons_zero, List.set_cons_succ]
          refine wpAnyH_done (by kernel_rfl) ?_ _
          have HF : Hid (RcI w G L (chF k (L.take (j + 1))) _) := Lib.hid (by rw [HSt.out HT.out]; exact z0.out.1)
          go_wp2
          go_roundw
          case rel => exact ⟨j + 1, by go_num, by omega, HF.out⟩
          case measure => simp [intOf]; omega
        case pos =>
          by_cases hz : b1 = 0
          · have h0 : (b0, b1, b2) = ((0 : Int), (0 : Int), (0 : Int)) := HCb.out.resolve_right (fun h => by have := canB_N h; simp at this; omega)
            have HT : Hid (chz k (b0, b1, b2) (x0, x1, x2) = (x0, x1, x2)) := Lib.hid (by rw [HChE.out, if_pos ⟨hk, .inl h0⟩])
            injection h0 with e0 e1
            injection e1 with e1 e2
            subst e0; subst e1; subst e2
            clear hz HSt HChE HB HX HCb
            by_cases hk1 : k = -1
            · have hk1t : (k == -1) = true := by simpa using hk1
              clear hk hk1
              refine wp_region_held_drew (S := fun wz => wz.cell? ⟨X, 0, none⟩ = some (.int .i64 x0) ∧ wz.cell? ⟨w.heap.size + 1, 1, none⟩ = some (.int .i64 0) ∧ RowAt wz (w.heap.size + 1) 27 #[.int .i64 0, .int .i64 0, .int .i64 0] ∧ RowAt wz X 27 #[.int .i64 x0, .int .i64 x1, .int .i64 x2]) (by kernel_rfl) (HSZ.out _ z0.out) (fun hHeld => ?_)
              clear hHeld
              refine wpAnyH_take (i := 0) (v := ?_) rfl (by kernel_rfl) (by kernel_rfl) (by kernel_rfl) (fun _ _ _ h => h) (Or.inl ⟨by rfl, ?_⟩) (HSZ.out _ z0.out) ?_
              rotate_left
              · intro w hSw; (try dsimp only at hSw); go_simp; try with_reducible rfl
              try simp only [Act.put, List.getElem_toArray, List.getElem_cons_zero, List.getElem_cons_succ, List.setIfInBounds_toArray, List.set_cons_zero, List.set_cons_succ]
              refine wpAnyH_take (i := 1) (v := ?_) rfl (by kernel_rfl) (by kernel_rfl) (by kernel_rfl) (fun _ _ _ h => h) (Or.inl ⟨by rfl, ?_⟩) (HSZ.out _ z0.out) ?_
              rotate_left
              · intro w hSw; (try dsimp only at hSw); go_simp; try with_reducible rfl
              try simp only [Act.put, List.getElem_toArray, List.getElem_cons_zero, List.getElem_cons_succ, List.setIfInBounds_toArray, List.set_cons_zero, List.set_cons_succ]
              refine wpAnyH_take (i := 2) (v := ?_) rfl (by kernel_rfl) (by kernel_rfl) (by kernel_rfl) (fun _ _ _ h => h) (Or.inl ⟨by rfl, ?_⟩) (HSZ.out _ z0.out) ?_
              rotate_left
              · intro w hSw; (try dsimp only at hSw); go_simp; try with_reducible rfl
              try simp only [Act.put, List.getElem_toArray, List.getElem_cons_zero, List.getElem_cons_succ, List.setIfInBounds_toArray, List.set_cons_zero, List.set_cons_succ]
              refine wpAnyH_take (i := 3) (v := undef) rfl (by kernel_rfl) (by kernel_rfl) (by kernel_rfl) (fun _ _ _ h => h) (Or.inr ⟨by rfl, rfl⟩) (HSZ.out _ z0.out) ?_
              try simp only [Act.put, List.getElem_toArray, List.getElem_cons_zero, List.getElem_cons_succ, List.setIfInBounds_toArray, List.set_cons_zero, List.set_cons_succ]
              refine wpAnyH_take (i := 4) (v := undef) rfl (by kernel_rfl) (by kernel_rfl) (by kernel_rfl) (fun _ _ _ h => h) (Or.inr ⟨by rfl, rfl⟩) (HSZ.out _ z0.out) ?_
              try simp only [Act.put, List.getElem_toArray, List.getElem_cons_zero, List.getElem_cons_succ, List.setIfInBounds_toArray, List.set_cons_zero, List.set_cons_succ]
              refine wpAnyH_take (i := 5) (v := undef) rfl (by kernel_rfl) (by kernel_rfl) (by kernel_rfl) (fun _ _ _ h => h) (Or.inr ⟨by rfl, rfl⟩) (HSZ.out _ z0.out) ?_
              try simp only [Act.put, List.getElem_toArray, List.getElem_cons_zero, List.getElem_cons_succ, List.setIfInBounds_toArray, List.set_cons_zero, List.set_cons_succ]
              refine wpAnyH_take (i := 6) (v := undef) rfl (by kernel_rfl) (by kernel_rfl) (by kernel_rfl) (fun _ _ _ h => h) (Or.inr ⟨by rfl, rfl⟩) (HSZ.out _ z0.out) ?_
              try simp only [Act.put, List.getElem_toArray, List.getElem_cons_zero, List.getElem_cons_succ, List.setIfInBounds_toArray, List.set_cons_zero, List.set_cons_succ]
              refine wpAnyH_take (i := 7) (v := ?_) rfl (by kernel_rfl) (by kernel_rfl) (by kernel_rfl) (fun _ _ _ h => h) (Or.inl ⟨by rfl, ?_⟩) (HSZ.out _ z0.out) ?_
              rotate_left
              · intro w hSw; (try dsimp only at hSw); go_simp; try with_reducible rfl
              try simp only [Act.put, List.getElem_toArray, List.getElem_cons_zero, List.getElem_cons_succ, List.setIfInBounds_toArray, List.set_cons_zero, List.set_cons_succ]
              refine wpAnyH_take (i := 8) (v := ?_) rfl (by kernel_rfl) (by kernel_rfl) (by kernel_rfl) (fun _ _ _ h => h) (Or.inl ⟨by rfl, ?_⟩) (HSZ.out _ z0.out) ?_
              rotate_left
              · intro w hSw; (try dsimp only at hSw); go_simp; try with_reducible rfl
              try simp only [Act.put, List.getElem_toArray, List.getElem_cons_zero, List.getElem_cons_succ, List.setIfInBounds_toArray, List.set_cons_zero, List.set_cons_succ]
              refine wpAnyH_take (i := 9) (v := ?_) rfl (by kernel_rfl) (by kernel_rfl) (by kernel_rfl) (fun _ _ _ h => h) (Or.inl ⟨by rfl, ?_⟩) (HSZ.out _ z0.out) ?_
              rotate_left
              · intro w hSw; (try dsimp only at hSw); go_simp; try with_reducible rfl
              try simp only [Act.put, List.getElem_toArray, List.getElem_cons_zero, List.getElem_cons_succ, List.setIfInBounds_toArray, List.set_cons_zero, List.set_cons_succ]
              refine wpAnyH_take (i := 10) (v := ?_) rfl (by kernel_rfl) (by kernel_rfl) (by kernel_rfl) (fun _ _ _ h => h) (Or.inl ⟨by rfl, ?_⟩) (HSZ.out _ z0.out) ?_
              rotate_left
              · intro w hSw; (try dsimp only at hSw); go_simp; try with_reducible rfl
              try simp only [Act.put, List.getElem_toArray, List.getElem_cons_zero, List.getElem_cons_succ, List.setIfInBounds_toArray, List.set_cons_zero, List.set_cons_succ]
              refine wpAnyH_take (i := 11) (v := ?_) rfl (by kernel_rfl) (by kernel_rfl) (by kernel_rfl) (fun _ _ _ h => h) (Or.inl ⟨by rfl, ?_⟩) (HSZ.out _ z0.out) ?_
              rotate_left
              · intro w hSw; (try dsimp only at hSw); go_simp; try with_reducible rfl
              try simp only [Act.put, List.getElem_toArray, List.getElem_cons_zero, List.getElem_cons_succ, List.setIfInBounds_toArray, List.set_cons_zero, List.set_cons_succ]
              refine wpAnyH_take (i := 12) (v := ?_) rfl (by kernel_rfl) (by kernel_rfl) (by kernel_rfl) (fun _ _ _ h => h) (Or.inl ⟨by rfl, ?_⟩) (HSZ.out _ z0.out) ?_
              rotate_left
              · intro w hSw; (try dsimp only at hSw); go_simp; try with_reducible rfl
              try simp only [Act.put, List.getElem_toArray, List.getElem_cons_zero, List.getElem_cons_succ, List.setIfInBounds_toArray, List.set_cons_zero, List.set_cons_succ]
              refine wpAnyH_take (i := 13) (v := undef) rfl (by kernel_rfl) (by kernel_rfl) (by kernel_rfl) (fun _ _ _ h => h) (Or.inr ⟨by rfl, rfl⟩) (HSZ.out _ z0.out) ?_
              try simp only [Act.put, List.getElem_toArray, List.getElem_cons_zero, List.getElem_cons_succ, List.setIfInBounds_toArray, List.set_cons_zero, List.set_cons_succ]
              refine wpAnyH_take (i := 14) (v := undef) rfl (by kernel_rfl) (by kernel_rfl) (by kernel_rfl) (fun _ _ _ h => h) (Or.inr ⟨by rfl, rfl⟩) (HSZ.out _ z0.out) ?_
              try simp only [Act.put, List.getElem_toArray, List.getElem_cons_zero, List.getElem_cons_succ, List.setIfInBounds_toArray, List.set_cons_zero, List.set_cons_succ]
              refine wpAnyH_take (i := 15) (v := undef) rfl (by kernel_rfl) (by kernel_rfl) (by kernel_rfl) (fun _ _ _ h => h) (Or.inr ⟨by rfl, rfl⟩) (HSZ.out _ z0.out) ?_
              try simp only [Act.put, List.getElem_toArray, List.getElem_cons_zero, List.getElem_cons_succ, List.setIfInBounds_toArray, List.set_cons_zero, List.set_cons_succ]
              refine wpAnyH_take (i := 16) (v := undef) rfl (by kernel_rfl) (by kernel_rfl) (by kernel_rfl) (fun _ _ _ h => h) (Or.inr ⟨by rfl, rfl⟩) (HSZ.out _ z0.out) ?_
              try simp only [Act.put, List.getElem_toArray, List.getElem_cons_zero, List.getElem_cons_succ, List.setIfInBounds_toArray, List.set_cons_zero, List.set_cons_succ]
              refine wpAnyH_take (i := 17) (v := undef) rfl (by kernel_rfl) (by kernel_rfl) (by kernel_rfl) (fun _ _ _ h => h) (Or.inr ⟨by rfl, rfl⟩) (HSZ.out _ z0.out) ?_
              try simp only [Act.put, List.getElem_toArray, List.getElem_cons_zero, List.getElem_cons_succ, List.setIfInBounds_toArray, List.set_cons_zero, List.set_cons_succ]
              refine wpAnyH_take (i := 18) (v := ?_) rfl (by kernel_rfl) (by kernel_rfl) (by kernel_rfl) (fun _ _ _ h => h) (Or.inl ⟨by rfl, ?_⟩) (HSZ.out _ z0.out) ?_
              rotate_left
              · intro w hSw; (try dsimp only at hSw); go_simp; try with_reducible rfl
              try simp only [Act.put, List.getElem_toArray, List.getElem_cons_zero, List.getElem_cons_succ, List.setIfInBounds_toArray, List.set_cons_zero, List.set_cons_succ]
              refine wpAnyH_take (i := 19) (v := ?_) rfl (by kernel_rfl) (by kernel_rfl) (by kernel_rfl) (fun _ _ _ h => h) (Or.inl ⟨by rfl, ?_⟩) (HSZ.out _ z0.out) ?_
              rotate_left
              · intro w hSw; (try dsimp only at hSw); go_simp; try with_reducible rfl
              try simp only [Act.put, List.getElem_toArray, List.getElem_cons_zero, List.getElem_cons_succ, List.setIfInBounds_toArray, List.set_cons_zero, List.set_cons_succ]
              refine wpAnyH_done (by kernel_rfl) ?_ _
              have HF : Hid (RcI w G L (chF k (L.take (j + 1))) (World.setRow _ (w.heap.size + 1) #[.int .i64 x0, .int .i64 x1, .int .i64 x2])) := Lib.hid (by rw [HTk.out HT.out]; exact z0.out.1.set (x0, x1, x2))
              go_wp2_with (first | (refine wpList_load_row rfl _ _ rfl _ rfl _ _ _ _ (z0.out.2.1) Tryz.underlying27 rfl (by exact size_rplan) ?_) | (refine wpList_store_row rfl _ _ _ rfl _ _ rfl rfl _ _ (z0.out.1.best) (by exact size_rplan) rfl (plan_one _ _ _) ?_))
              go_roundw
              case rel => exact ⟨j + 1, by go_num, by omega, HF.out⟩
              case measure => simp [intOf]; omega
            · have hk := hk.resolve_left hk1
              have hk1f : (k == -1) = false := by rw [beq_eq_false_iff_ne]; exact hk1
              have hk2t : (k == x0) = true := by simpa using hk
              clear hk hk1
              refine wp_region_held_drew (S := fun wz => wz.cell? ⟨X, 0, none⟩ = some (.int .i64 x0) ∧ wz.cell? ⟨w.heap.size + 1, 1, none⟩ = some (.int .i64 0) ∧ RowAt wz (w.heap.size + 1) 27 #[.int .i64 0, .int .i64 0, .int .i64 0] ∧ RowAt wz X 27 #[.int .i64 x0, .int .i64 x1, .int .i64 x2]) (by kernel_rfl) (HSZ.out _ z0.out) (fun hHeld => ?_)
              clear hHeld
              refine wpAnyH_take (i := 0) (v := ?_) rfl (by kernel_rfl) (by kernel_rfl) (by kernel_rfl) (fun _ _ _ h => h) (Or.inl ⟨by rfl, ?_⟩) (HSZ.out _ z0.out) ?_
              rotate_left
              · intro w hSw; (try dsimp only at hSw); go_simp; try with_reducible rfl
              try simp only [Act.put, List.getElem_toArray, List.getElem_cons_zero, List.getElem_cons_succ, List.setIfInBounds_toArray, List.set_cons_zero, List.set_cons_succ]
              refine wpAnyH_take (i := 1) (v := ?_) rfl (by kernel_rfl) (by kernel_rfl) (by kernel_rfl) (fun _ _ _ h => h) (Or.inl ⟨by rfl, ?_⟩) (HSZ.out _ z0.out) ?_
              rotate_left
              · intro w hSw; (try dsimp only at hSw); go_simp; try with_reducible rfl
              try simp only [Act.put, List.getElem_toArray, List.getElem_cons_zero, List.getElem_cons_succ, List.setIfInBounds_toArray, List.set_cons_zero, List.set_cons_succ]
              refine wpAnyH_take (i := 2) (v := ?_) rfl (by kernel_rfl) (by kernel_rfl) (by kernel_rfl) (fun _ _ _ h => h) (Or.inl ⟨by rfl, ?_⟩) (HSZ.out _ z0.out) ?_
              rotate_left
              · intro w hSw; (try dsimp only at hSw); go_simp; try with_reducible rfl
              try simp only [Act.put, List.getElem_toArray, List.getElem_cons_zero, List.getElem_cons_succ, List.setIfInBounds_toArray, List.set_cons_zero, List.set_cons_succ]
              refine wpAnyH_take (i := 3) (v := ?_) rfl (by kernel_rfl) (by kernel_rfl) (by kernel_rfl) (fun _ _ _ h => h) (Or.inl ⟨by rfl, ?_⟩) (HSZ.out _ z0.out) ?_
              rotate_left
              · intro w hSw; (try dsimp only at hSw); go_simp; try with_reducible rfl
              try simp only [Act.put, List.getElem_toArray, List.getElem_cons_zero, List.getElem_cons_succ, List.setIfInBounds_toArray, List.set_cons_zero, List.set_cons_succ]
              refine wpAnyH_take (i := 4) (v := ?_) rfl (by kernel_rfl) (by kernel_rfl) (by kernel_rfl) (fun _ _ _ h => h) (Or.inl ⟨by rfl, ?_⟩) (HSZ.out _ z0.out) ?_
              rotate_left
              · intro w hSw; (try dsimp only at hSw); go_simp; try with_reducible rfl
              try simp only [Act.put, List.getElem_toArray, List.getElem_cons_zero, List.getElem_cons_succ, List.setIfInBounds_toArray, List.set_cons_zero, List.set_cons_succ]
              refine wpAnyH_take (i := 5) (v := ?_) rfl (by kernel_rfl) (by kernel_rfl) (by kernel_rfl) (fun _ _ _ h => h) (Or.inl ⟨by rfl, ?_⟩) (HSZ.out _ z0.out) ?_
              rotate_left
              · intro w hSw; (try dsimp only at hSw); go_simp; try with_reducible rfl
              try simp only [Act.put, List.getElem_toArray, List.getElem_cons_zero, List.getElem_cons_succ, List.setIfInBounds_toArray, List.set_cons_zero, List.set_cons_succ]
              refine wpAnyH_take (i := 6) (v := ?_) rfl (by kernel_rfl) (by kernel_rfl) (by kernel_rfl) (fun _ _ _ h => h) (Or.inl ⟨by rfl, ?_⟩) (HSZ.out _ z0.out) ?_
              rotate_left
              · intro w hSw; (try dsimp only at hSw); go_simp; try with_reducible rfl
              try simp only [Act.put, List.getElem_toArray, List.getElem_cons_zero, List.getElem_cons_succ, List.setIfInBounds_toArray, List.set_cons_zero, List.set_cons_succ]
              refine wpAnyH_take (i := 7) (v := ?_) rfl (by kernel_rfl) (by kernel_rfl) (by kernel_rfl) (fun _ _ _ h => h) (Or.inl ⟨by rfl, ?_⟩) (HSZ.out _ z0.out) ?_
              rotate_left
              · intro w hSw; (try dsimp only at hSw); go_simp; try with_reducible rfl
              try simp only [Act.put, List.getElem_toArray, List.getElem_cons_zero, List.getElem_cons_succ, List.setIfInBounds_toArray, List.set_cons_zero, List.set_cons_succ]
              refine wpAnyH_take (i := 8) (v := ?_) rfl (by kernel_rfl) (by kernel_rfl) (by kernel_rfl) (fun _ _ _ h => h) (Or.inl ⟨by rfl, ?_⟩) (HSZ.out _ z0.out) ?_
              rotate_left
              · intro w hSw; (try dsimp only at hSw); go_simp; try with_reducible rfl
              try simp only [Act.put, List.getElem_toArray, List.getElem_cons_zero, List.getElem_cons_succ, List.setIfInBounds_toArray, List.set_cons_zero, List.set_cons_succ]
              refine wpAnyH_take (i := 9) (v := ?_) rfl (by kernel_rfl) (by kernel_rfl) (by kernel_rfl) (fun _ _ _ h => h) (Or.inl ⟨by rfl, ?_⟩) (HSZ.out _ z0.out) ?_
              rotate_left
              · intro w hSw; (try dsimp only at hSw); go_simp; try with_reducible rfl
              try simp only [Act.put, List.getElem_toArray, List.getElem_cons_zero, List.getElem_cons_succ, List.setIfInBounds_toArray, List.set_cons_zero, List.set_cons_succ]
              refine wpAnyH_take (i := 10) (v := ?_) rfl (by kernel_rfl) (by kernel_rfl) (by kernel_rfl) (fun _ _ _ h => h) (Or.inl ⟨by rfl, ?_⟩) (HSZ.out _ z0.out) ?_
              rotate_left
              · intro w hSw; (try dsimp only at hSw); go_simp; try with_reducible rfl
              try simp only [Act.put, List.getElem_toArray, List.getElem_cons_zero, List.getElem_cons_succ, List.setIfInBounds_toArray, List.set_cons_zero, List.set_cons_succ]
              refine wpAnyH_take (i := 11) (v := ?_) rfl (by kernel_rfl) (by kernel_rfl) (by kernel_rfl) (fun _ _ _ h => h) (Or.inl ⟨by rfl, ?_⟩) (HSZ.out _ z0.out) ?_
              rotate_left
              · intro w hSw; (try dsimp only at hSw); go_simp; try with_reducible rfl
              try simp only [Act.put, List.getElem_toArray, List.getElem_cons_zero, List.getElem_cons_succ, List.setIfInBounds_toArray, List.set_cons_zero, List.set_cons_succ]
              refine wpAnyH_take (i := 12) (v := ?_) rfl (by kernel_rfl) (by kernel_rfl) (by kernel_rfl) (fun _ _ _ h => h) (Or.inl ⟨by rfl, ?_⟩) (HSZ.out _ z0.out) ?_
              rotate_left
              · intro w hSw; (try dsimp only at hSw); go_simp; try with_reducible rfl
              try simp only [Act.put, List.getElem_toArray, List.getElem_cons_zero, List.getElem_cons_succ, List.setIfInBounds_toArray, List.set_cons_zero, List.set_cons_succ]
              refine wpAnyH_take (i := 13) (v := undef) rfl (by kernel_rfl) (by kernel_rfl) (by kernel_rfl) (fun _ _ _ h => h) (Or.inr ⟨by rfl, rfl⟩) (HSZ.out _ z0.out) ?_
              try simp only [Act.put, List.getElem_toArray, List.getElem_cons_zero, List.getElem_cons_succ, List.setIfInBounds_toArray, List.set_cons_zero, List.set_cons_succ]
              refine wpAnyH_take (i := 14) (v := undef) rfl (by kernel_rfl) (by kernel_rfl) (by kernel_rfl) (fun _ _ _ h => h) (Or.inr ⟨by rfl, rfl⟩) (HSZ.out _ z0.out) ?_
              try simp only [Act.put, List.getElem_toArray, List.getElem_cons_zero, List.getElem_cons_succ, List.setIfInBounds_toArray, List.set_cons_zero, List.set_cons_succ]
              refine wpAnyH_take (i := 15) (v := undef) rfl (by kernel_rfl) (by kernel_rfl) (by kernel_rfl) (fun _ _ _ h => h) (Or.inr ⟨by rfl, rfl⟩) (HSZ.out _ z0.out) ?_
              try simp only [Act.put, List.getElem_toArray, List.getElem_cons_zero, List.getElem_cons_succ, List.setIfInBounds_toArray, List.set_cons_zero, List.set_cons_succ]
              refine wpAnyH_take (i := 16) (v := undef) rfl (by kernel_rfl) (by kernel_rfl) (by kernel_rfl) (fun _ _ _ h => h) (Or.inr ⟨by rfl, rfl⟩) (HSZ.out _ z0.out) ?_
              try simp only [Act.put, List.getElem_toArray, List.getElem_cons_zero, List.getElem_cons_succ, List.setIfInBounds_toArray, List.set_cons_zero, List.set_cons_succ]
              refine wpAnyH_take (i := 17) (v := undef) rfl (by kernel_rfl) (by kernel_rfl) (by kernel_rfl) (fun _ _ _ h => h) (Or.inr ⟨by rfl, rfl⟩) (HSZ.out _ z0.out) ?_
              try simp only [Act.put, List.getElem_toArray, List.getElem_cons_zero, List.getElem_cons_succ, List.setIfInBounds_toArray, List.set_cons_zero, List.set_cons_succ]
              refine wpAnyH_take (i := 18) (v := ?_) rfl (by kernel_rfl) (by kernel_rfl) (by kernel_rfl) (fun _ _ _ h => h) (Or.inl ⟨by rfl, ?_⟩) (HSZ.out _ z0.out) ?_
              rotate_left
              · intro w hSw; (try dsimp only at hSw); go_simp; try with_reducible rfl
              try simp only [Act.put, List.getElem_toArray, List.getElem_cons_zero, List.getElem_cons_succ, List.setIfInBounds_toArray, List.set_cons_zero, List.set_cons_succ]
              refine wpAnyH_take (i := 19) (v := ?_) rfl (by kernel_rfl) (by kernel_rfl) (by kernel_rfl) (fun _ _ _ h => h) (Or.inl ⟨by rfl, ?_⟩) (HSZ.out _ z0.out) ?_
              rotate_left
              · intro w hSw; (try dsimp only at hSw); go_simp; try with_reducible rfl
              try simp only [Act.put, List.getElem_toArray, List.getElem_cons_zero, List.getElem_cons_succ, List.setIfInBounds_toArray, List.set_cons_zero, List.set_cons_succ]
              refine wpAnyH_done (by kernel_rfl) ?_ _
              have HF : Hid (RcI w G L (chF k (L.take (j + 1))) (World.setRow _ (w.heap.size + 1) #[.int .i64 x0, .int .i64 x1, .int .i64 x2])) := Lib.hid (by rw [HTk.out HT.out]; exact z0.out.1.set (x0, x1, x2))
              go_wp2_with (first | (refine wpList_load_row rfl _ _ rfl _ rfl _ _ _ _ (z0.out.2.1) Tryz.underlying27 rfl (by exact size_rplan) ?_) | (refine wpList_store_row rfl _ _ _ rfl _ _ rfl rfl _ _ (z0.out.1.best) (by exact size_rplan) rfl (plan_one _ _ _) ?_))
              go_roundw
              case rel => exact ⟨j + 1, by go_num, by omega, HF.out⟩
              case measure => simp [intOf]; omega
          · have hcan : CanP (b0, b1, b2) := HCb.out.resolve_left (fun h => hz (by injection h with h1 h2; injection h2 with h2 h3))
            have HB := Lib.hid (HB.out hcan)
            have hz1 : (b1 == 0) = false := by simpa using hz
            have hzz : ¬ (b0, b1, b2) = ((0 : Int), (0 : Int), (0 : Int)) := fun h => hz (by injection h with h1 h2; injection h2 with h2 h3)
            by_cases hlt : cx < cb
            · have td : decide (cx < cb) = true := decide_eq_true hlt
              have HT : Hid (chz k (b0, b1, b2) (x0, x1, x2) = (x0, x1, x2)) := Lib.hid (by rw [HChE.out, if_pos ⟨hk, .inr hlt⟩])
              clear HSt HChE hz hzz hcan HCb hlt
              by_cases hk1 : k = -1
              · have hk1t : (k == -1) = true := by simpa using hk1
                clear hk hk1
                refine wp_region_held_drew (S := fun wz => wz.cell? ⟨X, 0, none⟩ = some (.int .i64 x0) ∧ wz.cell? ⟨w.heap.size + 1, 1, none⟩ = some (.int .i64 b1) ∧ RowAt wz (w.heap.size + 1) 27 #[.int .i64 b0, .int .i64 b1, .int .i64 b2] ∧ RowAt wz X 27 #[.int .i64 x0, .int .i64 x1, .int .i64 x2]) (by kernel_rfl) (HSZ.out _ z0.out) (fun hHeld => ?_)
                clear hHeld
                refine wpAnyH_take (i := 0) (v := ?_) rfl (by kernel_rfl) (by kernel_rfl) (by kernel_rfl) (fun _ _ _ h => h) (Or.inl ⟨by rfl, ?_⟩) (HSZ.out _ z0.out) ?_
                rotate_left
                · intro w hSw; (try dsimp only at hSw); go_simp; try with_reducible rfl
                try simp only [Act.put, List.getElem_toArray, List.getElem_cons_zero, List.getElem_cons_succ, List.setIfInBounds_toArray, List.set_cons_zero, List.set_cons_succ]
                refine wpAnyH_take (i := 1) (v := ?_) rfl (by kernel_rfl) (by kernel_rfl) (by kernel_rfl) (fun _ _ _ h => h) (Or.inl ⟨by rfl, ?_⟩) (HSZ.out _ z0.out) ?_
                rotate_left
                · intro w hSw; (try dsimp only at hSw); go_simp; try with_reducible rfl
                try simp only [Act.put, List.getElem_toArray, List.getElem_cons_zero, List.getElem_cons_succ, List.setIfInBounds_toArray, List.set_cons_zero, List.set_cons_succ]
                refine wpAnyH_take (i := 2) (v := ?_) rfl (by kernel_rfl) (by kernel_rfl) (by kernel_rfl) (fun _ _ _ h => h) (Or.inl ⟨by rfl, ?_⟩) (HSZ.out _ z0.out) ?_
                rotate_left
                · intro w hSw; (try dsimp only at hSw); go_simp; try with_reducible rfl
                try simp only [Act.put, List.getElem_toArray, List.getElem_cons_zero, List.getElem_cons_succ, List.setIfInBounds_toArray, List.set_cons_zero, List.set_cons_succ]
                refine wpAnyH_take (i := 3) (v := undef) rfl (by kernel_rfl) (by kernel_rfl) (by kernel_rfl) (fun _ _ _ h => h) (Or.inr ⟨by rfl, rfl⟩) (HSZ.out _ z0.out) ?_
                try simp only [Act.put, List.getElem_toArray, List.getElem_cons_zero, List.getElem_cons_succ, List.setIfInBounds_toArray, List.set_cons_zero, List.set_cons_succ]
                refine wpAnyH_take (i := 4) (v := undef) rfl (by kernel_rfl) (by kernel_rfl) (by kernel_rfl) (fun _ _ _ h => h) (Or.inr ⟨by rfl, rfl⟩) (HSZ.out _ z0.out) ?_
                try simp only [Act.put, List.getElem_toArray, List.getElem_cons_zero, List.getElem_cons_succ, List.setIfInBounds_toArray, List.set_cons_zero, List.set_cons_succ]
                refine wpAnyH_take (i := 5) (v := undef) rfl (by kernel_rfl) (by kernel_rfl) (by kernel_rfl) (fun _ _ _ h => h) (Or.inr ⟨by rfl, rfl⟩) (HSZ.out _ z0.out) ?_
                try simp only [Act.put, List.getElem_toArray, List.getElem_cons_zero, List.getElem_cons_succ, List.setIfInBounds_toArray, List.set_cons_zero, List.set_cons_succ]
                refine wpAnyH_take (i := 6) (v := undef) rfl (by kernel_rfl) (by kernel_rfl) (by kernel_rfl) (fun _ _ _ h => h) (Or.inr ⟨by rfl, rfl⟩) (HSZ.out _ z0.out) ?_
                try simp only [Act.put, List.getElem_toArray, List.getElem_cons_zero, List.getElem_cons_succ, List.setIfInBounds_toArray, List.set_cons_zero, List.set_cons_succ]
                refine wpAnyH_take (i := 7) (v := ?_) rfl (by kernel_rfl) (by kernel_rfl) (by kernel_rfl) (fun _ _ _ h => h) (Or.inl ⟨by rfl, ?_⟩) (HSZ.out _ z0.out) ?_
                rotate_left
                · intro w hSw; (try dsimp only at hSw); go_simp; try with_reducible rfl
                try simp only [Act.put, List.getElem_toArray, List.getElem_cons_zero, List.getElem_cons_succ, List.setIfInBounds_toArray, List.set_cons_zero, List.set_cons_succ]
                refine wpAnyH_take (i := 8) (v := ?_) rfl (by kernel_rfl) (by kernel_rfl) (by kernel_rfl) (fun _ _ _ h => h) (Or.inl ⟨by rfl, ?_⟩) (HSZ.out _ z0.out) ?_
                rotate_left
                · intro w hSw; (try dsimp only at hSw); go_simp; try with_reducible rfl
                try simp only [Act.put, List.getElem_toArray, List.getElem_cons_zero, List.getElem_cons_succ, List.setIfInBounds_toArray, List.set_cons_zero, List.set_cons_succ]
                refine wpAnyH_take (i := 9) (v := ?_) rfl (by kernel_rfl) (by kernel_rfl) (by kernel_rfl) (fun _ _ _ h => h) (Or.inl ⟨by rfl, ?_⟩) (HSZ.out _ z0.out) ?_
                rotate_left
                · intro w hSw; (try dsimp only at hSw); go_simp; try with_reducible rfl
                try simp only [Act.put, List.getElem_toArray, List.getElem_cons_zero, List.getElem_cons_succ, List.setIfInBounds_toArray, List.set_cons_zero, List.set_cons_succ]
                refine wpAnyH_take (i := 10) (v := ?_) rfl (by kernel_rfl) (by kernel_rfl) (by kernel_rfl) (fun _ _ _ h => h) (Or.inl ⟨by rfl, ?_⟩) (HSZ.out _ z0.out) ?_
                rotate_left
                · intro w hSw; (try dsimp only at hSw); go_simp; try with_reducible rfl
                try simp only [Act.put, List.getElem_toArray, List.getElem_cons_zero, List.getElem_cons_succ, List.setIfInBounds_toArray, List.set_cons_zero, List.set_cons_succ]
                refine wpAnyH_take (i := 11) (v := ?_) rfl (by kernel_rfl) (by kernel_rfl) (by kernel_rfl) (fun _ _ _ h => h) (Or.inl ⟨by rfl, ?_⟩) (HSZ.out _ z0.out) ?_
                rotate_left
                · intro w hSw; (try dsimp only at hSw); go_simp; try with_reducible rfl
                try simp only [Act.put, List.getElem_toArray, List.getElem_cons_zero, List.getElem_cons_succ, List.setIfInBounds_toArray, List.set_cons_zero, List.set_cons_succ]
                refine wpAnyH_take (i := 12) (v := ?_) rfl (by kernel_rfl) (by kernel_rfl) (by kernel_rfl) (fun _ _ _ h => h) (Or.inl ⟨by rfl, ?_⟩) (HSZ.out _ z0.out) ?_
                rotate_left
                · intro w hSw; (try dsimp only at hSw); go_simp; try with_reducible rfl
                try simp only [Act.put, List.getElem_toArray, List.getElem_cons_zero, List.getElem_cons_succ, List.setIfInBounds_toArray, List.set_cons_zero, List.set_cons_succ]
                refine wpAnyH_take (i := 13) rfl (by kernel_rfl) (by kernel_rfl) (by kernel_rfl) (fun _ _ _ h => h) (yieldsIf_load_row (by rfl) _ _ rfl _ rfl _ _ _ (fun wz h => h.2.2.2) Tryz.underlying27 rfl (by exact size_rplan)) (HSZ.out _ z0.out) ?_
                try simp only [Act.put, List.getElem_toArray, List.getElem_cons_zero, List.getElem_cons_succ, List.setIfInBounds_toArray, List.set_cons_zero, List.set_cons_succ]
                refine wpAnyH_take (i := 15) rfl (by kernel_rfl) (by kernel_rfl) (by kernel_rfl) (fun _ _ _ h => h) (yieldsIf_load_row (by rfl) _ _ rfl _ rfl _ _ _ (fun wz h => h.2.2.1) Tryz.underlying27 rfl (by exact size_rplan)) (HSZ.out _ z0.out) ?_
                try simp only [Act.put, List.getElem_toArray, List.getElem_cons_zero, List.getElem_cons_succ, List.setIfInBounds_toArray, List.set_cons_zero, List.set_cons_succ]
                refine wpAnyH_ready (rs := [14]) (by kernel_rfl) (by simp) ?_
                refine AllReadyH.cons rfl (fun K hK => ?_) AllReadyH.nil
                try simp only [List.getElem_toArray, List.getElem_cons_zero, List.getElem_cons_succ]
                rw [if_pos (by rfl)]
                go_wp2_with (go_at_call 19; refine (HX.out _).mono ?_; rintro e w8 ⟨rfl, hY⟩)
                have z8 := Lib.hid (KP.out _ _ z0.out hY)
                clear hY
                refine hK.out _ _ ((HSZ.out _ z8.out)) (fun _ => ?_)
                clear hK K
                try simp only [Act.put, List.getElem_toArray, List.getElem_cons_zero, List.getElem_cons_succ, List.setIfInBounds_toArray, List.set_cons_zero, List.set_cons_succ]
                refine wpAnyH_ready (rs := [16]) (by kernel_rfl) (by simp) ?_
                refine AllReadyH.cons rfl (fun K hK => ?_) AllReadyH.nil
                try simp only [List.getElem_toArray, List.getElem_cons_zero, List.getElem_cons_succ]
                rw [if_pos (by rfl)]
                go_wp2_with (go_at_call 19; refine (HB.out _).mono ?_; rintro e w9 ⟨rfl, hY⟩)
                have z9 := Lib.hid (KP.out _ _ z8.out hY)
                clear hY
                refine hK.out _ _ ((HSZ.out _ z9.out)) (fun _ => ?_)
                clear hK K
                try simp only [Act.put, List.getElem_toArray, List.getElem_cons_zero, List.getElem_cons_succ, List.setIfInBounds_toArray, List.set_cons_zero, List.set_cons_succ]
                refine wpAnyH_take (i := 17) (v := ?_) rfl (by kernel_rfl) (by kernel_rfl) (by kernel_rfl) (fun _ _ _ h => h) (Or.inl ⟨by rfl, ?_⟩) (HSZ.out _ z9.out) ?_
                rotate_left
                · intro w hSw; (try dsimp only at hSw); go_simp; try with_reducible rfl
                try simp only [Act.put, List.getElem_toArray, List.getElem_cons_zero, List.getElem_cons_succ, List.setIfInBounds_toArray, List.set_cons_zero, List.set_cons_succ]
                refine wpAnyH_take (i := 18) (v := ?_) rfl (by kernel_rfl) (by kernel_rfl) (by kernel_rfl) (fun _ _ _ h => h) (Or.inl ⟨by rfl, ?_⟩) (HSZ.out _ z9.out) ?_
                rotate_left
                · intro w hSw; (try dsimp only at hSw); go_simp; try with_reducible rfl
                try simp only [Act.put, List.getElem_toArray, List.getElem_cons_zero, List.getElem_cons_succ, List.setIfInBounds_toArray, List.set_cons_zero, List.set_cons_succ]
                refine wpAnyH_take (i := 19) (v := ?_) rfl (by kernel_rfl) (by kernel_rfl) (by kernel_rfl) (fun _ _ _ h => h) (Or.inl ⟨by rfl, ?_⟩) (HSZ.out _ z9.out) ?_
                rotate_left
                · intro w hSw; (try dsimp only at hSw); go_simp; try with_reducible rfl
                try simp only [Act.put, List.getElem_toArray, List.getElem_cons_zero, List.getElem_cons_succ, List.setIfInBounds_toArray, List.set_cons_zero, List.set_cons_succ]
                refine wpAnyH_done (by kernel_rfl) ?_ _
                have HF : Hid (RcI w G L (chF k (L.take (j + 1))) (World.setRow _ (w.heap.size + 1) #[.int .i64 x0, .int .i64 x1, .int .i64 x2])) := Lib.hid (by rw [HTk.out HT.out]; exact z9.out.1.set (x0, x1, x2))
                go_wp2_with (first | (refine wpList_load_row rfl _ _ rfl _ rfl _ _ _ _ (z9.out.2.1) Tryz.underlying27 rfl (by exact size_rplan) ?_) | (refine wpList_store_row rfl _ _ _ rfl _ _ rfl rfl _ _ (z9.out.1.best) (by exact size_rplan) rfl (plan_one _ _ _) ?_))
                go_roundw
                case rel => exact ⟨j + 1, by go_num, by omega, HF.out⟩
                case measure => simp [intOf]; omega
              · have hk := hk.resolve_left hk1
                have hk1f : (k == -1) = false := by rw [beq_eq_false_iff_ne]; exact hk1
                have hk2t : (k == x0) = true := by simpa using hk
                clear hk hk1
                refine wp_region_held_drew (S := fun wz => wz.cell? ⟨X, 0, none⟩ = some (.int .i64 x0) ∧ wz.cell? ⟨w.heap.size + 1, 1, none⟩ = some (.int .i64 b1) ∧ RowAt wz (w.heap.size + 1) 27 #[.int .i64 b0, .int .i64 b1, .int .i64 b2] ∧ RowAt wz X 27 #[.int .i64 x0, .int .i64 x1, .int .i64 x2]) (by kernel_rfl) (HSZ.out _ z0.out) (fun hHeld => ?_)
                clear hHeld
                refine wpAnyH_take (i := 0) (v := ?_) rfl (by kernel_rfl) (by kernel_rfl) (by kernel_rfl) (fun _ _ _ h => h) (Or.inl ⟨by rfl, ?_⟩) (HSZ.out _ z0.out) ?_
                rotate_left
                · intro w hSw; (try dsimp only at hSw); go_simp; try with_reducible rfl
                try simp only [Act.put, List.getElem_toArray, List.getElem_cons_zero, List.getElem_cons_succ, List.setIfInBounds_toArray, List.set_cons_zero, List.set_cons_succ]
                refine wpAnyH_take (i := 1) (v := ?_) rfl (by kernel_rfl) (by kernel_rfl) (by kernel_rfl) (fun _ _ _ h => h) (Or.inl ⟨by rfl, ?_⟩) (HSZ.out _ z0.out) ?_
                rotate_left
                · intro w hSw; (try dsimp only at hSw); go_simp; try with_reducible rfl
                try simp only [Act.put, List.getElem_toArray, List.getElem_cons_zero, List.getElem_cons_succ, List.setIfInBounds_toArray, List.set_cons_zero, List.set_cons_succ]
                refine wpAnyH_take (i := 2) (v := ?_) rfl (by kernel_rfl) (by kernel_rfl) (by kernel_rfl) (fun _ _ _ h => h) (Or.inl ⟨by rfl, ?_⟩) (HSZ.out _ z0.out) ?_
                rotate_left
                · intro w hSw; (try dsimp only at hSw); go_simp; try with_reducible rfl
                try simp only [Act.put, List.getElem_toArray, List.getElem_cons_zero, List.getElem_cons_succ, List.setIfInBounds_toArray, List.set_cons_zero, List.set_cons_succ]
                refine wpAnyH_take (i := 3) (v := ?_) rfl (by kernel_rfl) (by kernel_rfl) (by kernel_rfl) (fun _ _ _ h => h) (Or.inl ⟨by rfl, ?_⟩) (HSZ.out _ z0.out) ?_
                rotate_left
                · intro w hSw; (try dsimp only at hSw); go_simp; try with_reducible rfl
                try simp only [Act.put, List.getElem_toArray, List.getElem_cons_zero, List.getElem_cons_succ, List.setIfInBounds_toArray, List.set_cons_zero, List.set_cons_succ]
                refine wpAnyH_take (i := 4) (v := ?_) rfl (by kernel_rfl) (by kernel_rfl) (by kernel_rfl) (fun _ _ _ h => h) (Or.inl ⟨by rfl, ?_⟩) (HSZ.out _ z0.out) ?_
                rotate_left
                · intro w hSw; (try dsimp only at hSw); go_simp; try with_reducible rfl
                try simp only [Act.put, List.getElem_toArray, List.getElem_cons_zero, List.getElem_cons_succ, List.setIfInBounds_toArray, List.set_cons_zero, List.set_cons_succ]
                refine wpAnyH_take (i := 5) (v := ?_) rfl (by kernel_rfl) (by kernel_rfl) (by kernel_rfl) (fun _ _ _ h => h) (Or.inl ⟨by rfl, ?_⟩) (HSZ.out _ z0.out) ?_
                rotate_left
                · intro w hSw; (try dsimp only at hSw); go_simp; try with_reducible rfl
                try simp only [Act.put, List.getElem_toArray, List.getElem_cons_zero, List.getElem_cons_succ, List.setIfInBounds_toArray, List.set_cons_zero, List.set_cons_succ]
                refine wpAnyH_take (i := 6) (v := ?_) rfl (by kernel_rfl) (by kernel_rfl) (by kernel_rfl) (fun _ _ _ h => h) (Or.inl ⟨by rfl, ?_⟩) (HSZ.out _ z0.out) ?_
                rotate_left
                · intro w hSw; (try dsimp only at hSw); go_simp; try with_reducible rfl
                try simp only [Act.put, List.getElem_toArray, List.getElem_cons_zero, List.getElem_cons_succ, List.setIfInBounds_toArray, List.set_cons_zero, List.set_cons_succ]
                refine wpAnyH_take (i := 7) (v := ?_) rfl (by kernel_rfl) (by kernel_rfl) (by kernel_rfl) (fun _ _ _ h => h) (Or.inl ⟨by rfl, ?_⟩) (HSZ.out _ z0.out) ?_
                rotate_left
                · intro w hSw; (try dsimp only at hSw); go_simp; try with_reducible rfl
                try simp only [Act.put, List.getElem_toArray, List.getElem_cons_zero, List.getElem_cons_succ, List.setIfInBounds_toArray, List.set_cons_zero, List.set_cons_succ]
                refine wpAnyH_take (i := 8) (v := ?_) rfl (by kernel_rfl) (by kernel_rfl) (by kernel_rfl) (fun _ _ _ h => h) (Or.inl ⟨by rfl, ?_⟩) (HSZ.out _ z0.out) ?_
                rotate_left
                · intro w hSw; (try dsimp only at hSw); go_simp; try with_reducible rfl
                try simp only [Act.put, List.getElem_toArray, List.getElem_cons_zero, List.getElem_cons_succ, List.setIfInBounds_toArray, List.set_cons_zero, List.set_cons_succ]
                refine wpAnyH_take (i := 9) (v := ?_) rfl (by kernel_rfl) (by kernel_rfl) (by kernel_rfl) (fun _ _ _ h => h) (Or.inl ⟨by rfl, ?_⟩) (HSZ.out _ z0.out) ?_
                rotate_left
                · intro w hSw; (try dsimp only at hSw); go_simp; try with_reducible rfl
                try simp only [Act.put, List.getElem_toArray, List.getElem_cons_zero, List.getElem_cons_succ, List.setIfInBounds_toArray, List.set_cons_zero, List.set_cons_succ]
                refine wpAnyH_take (i := 10) (v := ?_) rfl (by kernel_rfl) (by kernel_rfl) (by kernel_rfl) (fun _ _ _ h => h) (Or.inl ⟨by rfl, ?_⟩) (HSZ.out _ z0.out) ?_
                rotate_left
                · intro w hSw; (try dsimp only at hSw); go_simp; try with_reducible rfl
                try simp only [Act.put, List.getElem_toArray, List.getElem_cons_zero, List.getElem_cons_succ, List.setIfInBounds_toArray, List.set_cons_zero, List.set_cons_succ]
                refine wpAnyH_take (i := 11) (v := ?_) rfl (by kernel_rfl) (by kernel_rfl) (by kernel_rfl) (fun _ _ _ h => h) (Or.inl ⟨by rfl, ?_⟩) (HSZ.out _ z0.out) ?_
                rotate_left
                · intro w hSw; (try dsimp only at hSw); go_simp; try with_reducible rfl
                try simp only [Act.put, List.getElem_toArray, List.getElem_cons_zero, List.getElem_cons_succ, List.setIfInBounds_toArray, List.set_cons_zero, List.set_cons_succ]
                refine wpAnyH_take (i := 12) (v := ?_) rfl (by kernel_rfl) (by kernel_rfl) (by kernel_rfl) (fun _ _ _ h => h) (Or.inl ⟨by rfl, ?_⟩) (HSZ.out _ z0.out) ?_
                rotate_left
                · intro w hSw; (try dsimp only at hSw); go_simp; try with_reducible rfl
                try simp only [Act.put, List.getElem_toArray, List.getElem_cons_zero, List.getElem_cons_succ, List.setIfInBounds_toArray, List.set_cons_zero, List.set_cons_succ]
                refine wpAnyH_take (i := 13) rfl (by kernel_rfl) (by kernel_rfl) (by kernel_rfl) (fun _ _ _ h => h) (yieldsIf_load_row (by rfl) _ _ rfl _ rfl _ _ _ (fun wz h => h.2.2.2) Tryz.underlying27 rfl (by exact size_rplan)) (HSZ.out _ z0.out) ?_
                try simp only [Act.put, List.getElem_toArray, List.getElem_cons_zero, List.getElem_cons_succ, List.setIfInBounds_toArray, List.set_cons_zero, List.set_cons_succ]
                refine wpAnyH_take (i := 15) rfl (by kernel_rfl) (by kernel_rfl) (by kernel_rfl) (fun _ _ _ h => h) (yieldsIf_load_row (by rfl) _ _ rfl _ rfl _ _ _ (fun wz h => h.2.2.1) Tryz.underlying27 rfl (by exact size_rplan)) (HSZ.out _ z0.out) ?_
                try simp only [Act.put, List.getElem_toArray, List.getElem_cons_zero, List.getElem_cons_succ, List.setIfInBounds_toArray, List.set_cons_zero, List.set_cons_succ]
                refine wpAnyH_ready (rs := [14]) (by kernel_rfl) (by simp) ?_
                refine AllReadyH.cons rfl (fun K hK => ?_) AllReadyH.nil
                try simp only [List.getElem_toArray, List.getElem_cons_zero, List.getElem_cons_succ]
                rw [if_pos (by rfl)]
                go_wp2_with (go_at_call 19; refine (HX.out _).mono ?_; rintro e w8 ⟨rfl, hY⟩)
                have z8 := Lib.hid (KP.out _ _ z0.out hY)
                clear hY
                refine hK.out _ _ ((HSZ.out _ z8.out)) (fun _ => ?_)
                clear hK K
                try simp only [Act.put, List.getElem_toArray, List.getElem_cons_zero, List.getElem_cons_succ, List.setIfInBounds_toArray, List.set_cons_zero, List.set_cons_succ]
                refine wpAnyH_ready (rs := [16]) (by kernel_rfl) (by simp) ?_
                refine AllReadyH.cons rfl (fun K hK => ?_) AllReadyH.nil
                try simp only [List.getElem_toArray, List.getElem_cons_zero, List.getElem_cons_succ]
                rw [if_pos (by rfl)]
                go_wp2_with (go_at_call 19; refine (HB.out _).mono ?_; rintro e w9 ⟨rfl, hY⟩)
                have z9 := Lib.hid (KP.out _ _ z8.out hY)
                clear hY
                refine hK.out _ _ ((HSZ.out _ z9.out)) (fun _ => ?_)
                clear hK K
                try simp only [Act.put, List.getElem_toArray, List.getElem_cons_zero, List.getElem_cons_succ, List.setIfInBounds_toArray, List.set_cons_zero, List.set_cons_succ]
                refine wpAnyH_take (i := 17) (v := ?_) rfl (by kernel_rfl) (by kernel_rfl) (by kernel_rfl) (fun _ _ _ h => h) (Or.inl ⟨by rfl, ?_⟩) (HSZ.out _ z9.out) ?_
                rotate_left
                · intro w hSw; (try dsimp only at hSw); go_simp; try with_reducible rfl
                try simp only [Act.put, List.getElem_toArray, List.getElem_cons_zero, List.getElem_cons_succ, List.setIfInBounds_toArray, List.set_cons_zero, List.set_cons_succ]
                refine wpAnyH_take (i := 18) (v := ?_) rfl (by kernel_rfl) (by kernel_rfl) (by kernel_rfl) (fun _ _ _ h => h) (Or.inl ⟨by rfl, ?_⟩) (HSZ.out _ z9.out) ?_
                rotate_left
                · intro w hSw; (try dsimp only at hSw); go_simp; try with_reducible rfl
                try simp only [Act.put, List.getElem_toArray, List.getElem_cons_zero, List.getElem_cons_succ, List.setIfInBounds_toArray, List.set_cons_zero, List.set_cons_succ]
                refine wpAnyH_take (i := 19) (v := ?_) rfl (by kernel_rfl) (by kernel_rfl) (by kernel_rfl) (fun _ _ _ h => h) (Or.inl ⟨by rfl, ?_⟩) (HSZ.out _ z9.out) ?_
                rotate_left
                · intro w hSw; (try dsimp only at hSw); go_simp; try with_reducible rfl
                try simp only [Act.put, List.getElem_toArray, List.getElem_cons_zero, List.getElem_cons_succ, List.setIfInBounds_toArray, List.set_cons_zero, List.set_cons_succ]
                refine wpAnyH_done (by kernel_rfl) ?_ _
                have HF : Hid (RcI w G L (chF k (L.take (j + 1))) (World.setRow _ (w.heap.size + 1) #[.int .i64 x0, .int .i64 x1, .int .i64 x2])) := Lib.hid (by rw [HTk.out HT.out]; exact z9.out.1.set (x0, x1, x2))
                go_wp2_with (first | (refine wpList_load_row rfl _ _ rfl _ rfl _ _ _ _ (z9.out.2.1) Tryz.underlying27 rfl (by exact size_rplan) ?_) | (refine wpList_store_row rfl _ _ _ rfl _ _ rfl rfl _ _ (z9.out.1.best) (by exact size_rplan) rfl (plan_one _ _ _) ?_))
                go_roundw
                case rel => exact ⟨j + 1, by go_num, by omega, HF.out⟩
                case measure => simp [intOf]; omega
            · have td : decide (cx < cb) = false := decide_eq_false hlt
              have HT : Hid (chz k (b0, b1, b2) (x0, x1, x2) = (b0, b1, b2)) := Lib.hid (by rw [HChE.out, if_neg (fun h => h.2.elim hzz hlt)])
              clear HTk HChE hz hzz hcan HCb hlt
              by_cases hk1 : k = -1
              · have hk1t : (k == -1) = true := by simpa using hk1
                clear hk hk1
                refine wp_region_held_drew (S := fun wz => wz.cell? ⟨X, 0, none⟩ = some (.int .i64 x0) ∧ wz.cell? ⟨w.heap.size + 1, 1, none⟩ = some (.int .i64 b1) ∧ RowAt wz (w.heap.size + 1) 27 #[.int .i64 b0, .int .i64 b1, .int .i64 b2] ∧ RowAt wz X 27 #[.int .i64 x0, .int .i64 x1, .int .i64 x2]) (by kernel_rfl) (HSZ.out _ z0.out) (fun hHeld => ?_)
                clear hHeld
                refine wpAnyH_take (i := 0) (v := ?_) rfl (by kernel_rfl) (by kernel_rfl) (by kernel_rfl) (fun _ _ _ h => h) (Or.inl ⟨by rfl, ?_⟩) (HSZ.out _ z0.out) ?_
                rotate_left
                · intro w hSw; (try dsimp only at hSw); go_simp; try with_reducible rfl
                try simp only [Act.put, List.getElem_toArray, List.getElem_cons_zero, List.getElem_cons_succ, List.setIfInBounds_toArray, List.set_cons_zero, List.set_cons_succ]
                refine wpAnyH_take (i := 1) (v := ?_) rfl (by kernel_rfl) (by kernel_rfl) (by kernel_rfl) (fun _ _ _ h => h) (Or.inl ⟨by rfl, ?_⟩) (HSZ.out _ z0.out) ?_
                rotate_left
                · intro w hSw; (try dsimp only at hSw); go_simp; try with_reducible rfl
                try simp only [Act.put, List.getElem_toArray, List.getElem_cons_zero, List.getElem_cons_succ, List.setIfInBounds_toArray, List.set_cons_zero, List.set_cons_succ]
                refine wpAnyH_take (i := 2) (v := ?_) rfl (by kernel_rfl) (by kernel_rfl) (by kernel_rfl) (fun _ _ _ h => h) (Or.inl ⟨by rfl, ?_⟩) (HSZ.out _ z0.out) ?_
                rotate_left
                · intro w hSw; (try dsimp only at hSw); go_simp; try with_reducible rfl
                try simp only [Act.put, List.getElem_toArray, List.getElem_cons_zero, List.getElem_cons_succ, List.setIfInBounds_toArray, List.set_cons_zero, List.set_cons_succ]
                refine wpAnyH_take (i := 3) (v := undef) rfl (by kernel_rfl) (by kernel_rfl) (by kernel_rfl) (fun _ _ _ h => h) (Or.inr ⟨by rfl, rfl⟩) (HSZ.out _ z0.out) ?_
                try simp only [Act.put, List.getElem_toArray, List.getElem_cons_zero, List.getElem_cons_succ, List.setIfInBounds_toArray, List.set_cons_zero, List.set_cons_succ]
                refine wpAnyH_take (i := 4) (v := undef) rfl (by kernel_rfl) (by kernel_rfl) (by kernel_rfl) (fun _ _ _ h => h) (Or.inr ⟨by rfl, rfl⟩) (HSZ.out _ z0.out) ?_
                try simp only [Act.put, List.getElem_toArray, List.getElem_cons_zero, List.getElem_cons_succ, List.setIfInBounds_toArray, List.set_cons_zero, List.set_cons_succ]
                refine wpAnyH_take (i := 5) (v := undef) rfl (by kernel_rfl) (by kernel_rfl) (by kernel_rfl) (fun _ _ _ h => h) (Or.inr ⟨by rfl, rfl⟩) (HSZ.out _ z0.out) ?_
                try simp only [Act.put, List.getElem_toArray, List.getElem_cons_zero, List.getElem_cons_succ, List.setIfInBounds_toArray, List.set_cons_zero, List.set_cons_succ]
                refine wpAnyH_take (i := 6) (v := undef) rfl (by kernel_rfl) (by kernel_rfl) (by kernel_rfl) (fun _ _ _ h => h) (Or.inr ⟨by rfl, rfl⟩) (HSZ.out _ z0.out) ?_
                try simp only [Act.put, List.getElem_toArray, List.getElem_cons_zero, List.getElem_cons_succ, List.setIfInBounds_toArray, List.set_cons_zero, List.set_cons_succ]
                refine wpAnyH_take (i := 7) (v := ?_) rfl (by kernel_rfl) (by kernel_rfl) (by kernel_rfl) (fun _ _ _ h => h) (Or.inl ⟨by rfl, ?_⟩) (HSZ.out _ z0.out) ?_
                rotate_left
                · intro w hSw; (try dsimp only at hSw); go_simp; try with_reducible rfl
                try simp only [Act.put, List.getElem_toArray, List.getElem_cons_zero, List.getElem_cons_succ, List.setIfInBounds_toArray, List.set_cons_zero, List.set_cons_succ]
                refine wpAnyH_take (i := 8) (v := ?_) rfl (by kernel_rfl) (by kernel_rfl) (by kernel_rfl) (fun _ _ _ h => h) (Or.inl ⟨by rfl, ?_⟩) (HSZ.out _ z0.out) ?_
                rotate_left
                · intro w hSw; (try dsimp only at hSw); go_simp; try with_reducible rfl
                try simp only [Act.put, List.getElem_toArray, List.getElem_cons_zero, List.getElem_cons_succ, List.setIfInBounds_toArray, List.set_cons_zero, List.set_cons_succ]
                refine wpAnyH_take (i := 9) (v := ?_) rfl (by kernel_rfl) (by kernel_rfl) (by kernel_rfl) (fun _ _ _ h => h) (Or.inl ⟨by rfl, ?_⟩) (HSZ.out _ z0.out) ?_
                rotate_left
                · intro w hSw; (try dsimp only at hSw); go_simp; try with_reducible rfl
                try simp only [Act.put, List.getElem_toArray, List.getElem_cons_zero, List.getElem_cons_succ, List.setIfInBounds_toArray, List.set_cons_zero, List.set_cons_succ]
                refine wpAnyH_take (i := 10) (v := ?_) rfl (by kernel_rfl) (by kernel_rfl) (by kernel_rfl) (fun _ _ _ h => h) (Or.inl ⟨by rfl, ?_⟩) (HSZ.out _ z0.out) ?_
                rotate_left
                · intro w hSw; (try dsimp only at hSw); go_simp; try with_reducible rfl
                try simp only [Act.put, List.getElem_toArray, List.getElem_cons_zero, List.getElem_cons_succ, List.setIfInBounds_toArray, List.set_cons_zero, List.set_cons_succ]
                refine wpAnyH_take (i := 11) (v := ?_) rfl (by kernel_rfl) (by kernel_rfl) (by kernel_rfl) (fun _ _ _ h => h) (Or.inl ⟨by rfl, ?_⟩) (HSZ.out _ z0.out) ?_
                rotate_left
                · intro w hSw; (try dsimp only at hSw); go_simp; try with_reducible rfl
                try simp only [Act.put, List.getElem_toArray, List.getElem_cons_zero, List.getElem_cons_succ, List.setIfInBounds_toArray, List.set_cons_zero, List.set_cons_succ]
                refine wpAnyH_take (i := 12) (v := ?_) rfl (by kernel_rfl) (by kernel_rfl) (by kernel_rfl) (fun _ _ _ h => h) (Or.inl ⟨by rfl, ?_⟩) (HSZ.out _ z0.out) ?_
                rotate_left
                · intro w hSw; (try dsimp only at hSw); go_simp; try with_reducible rfl
                try simp only [Act.put, List.getElem_toArray, List.getElem_cons_zero, List.getElem_cons_succ, List.setIfInBounds_toArray, List.set_cons_zero, List.set_cons_succ]
                refine wpAnyH_take (i := 13) rfl (by kernel_rfl) (by kernel_rfl) (by kernel_rfl) (fun _ _ _ h => h) (yieldsIf_load_row (by rfl) _ _ rfl _ rfl _ _ _ (fun wz h => h.2.2.2) Tryz.underlying27 rfl (by exact size_rplan)) (HSZ.out _ z0.out) ?_
                try simp only [Act.put, List.getElem_toArray, List.getElem_cons_zero, List.getElem_cons_succ, List.setIfInBounds_toArray, List.set_cons_zero, List.set_cons_succ]
                refine wpAnyH_take (i := 15) rfl (by kernel_rfl) (by kernel_rfl) (by kernel_rfl) (fun _ _ _ h => h) (yieldsIf_load_row (by rfl) _ _ rfl _ rfl _ _ _ (fun wz h => h.2.2.1) Tryz.underlying27 rfl (by exact size_rplan)) (HSZ.out _ z0.out) ?_
                try simp only [Act.put, List.getElem_toArray, List.getElem_cons_zero, List.getElem_cons_succ, List.setIfInBounds_toArray, List.set_cons_zero, List.set_cons_succ]
                refine wpAnyH_ready (rs := [14]) (by kernel_rfl) (by simp) ?_
                refine AllReadyH.cons rfl (fun K hK => ?_) AllReadyH.nil
                try simp only [List.getElem_toArray, List.getElem_cons_zero, List.getElem_cons_succ]
                rw [if_pos (by rfl)]
                go_wp2_with (go_at_call 19; refine (HX.out _).mono ?_; rintro e w8 ⟨rfl, hY⟩)
                have z8 := Lib.hid (KP.out _ _ z0.out hY)
                clear hY
                refine hK.out _ _ ((HSZ.out _ z8.out)) (fun _ => ?_)
                clear hK K
                try simp only [Act.put, List.getElem_toArray, List.getElem_cons_zero, List.getElem_cons_succ, List.setIfInBounds_toArray, List.set_cons_zero, List.set_cons_succ]
                refine wpAnyH_ready (rs := [16]) (by kernel_rfl) (by simp) ?_
                refine AllReadyH.cons rfl (fun K hK => ?_) AllReadyH.nil
                try simp only [List.getElem_toArray, List.getElem_cons_zero, List.getElem_cons_succ]
                rw [if_pos (by rfl)]
                go_wp2_with (go_at_call 19; refine (HB.out _).mono ?_; rintro e w9 ⟨rfl, hY⟩)
                have z9 := Lib.hid (KP.out _ _ z8.out hY)
                clear hY
                refine hK.out _ _ ((HSZ.out _ z9.out)) (fun _ => ?_)
                clear hK K
                try simp only [Act.put, List.getElem_toArray, List.getElem_cons_zero, List.getElem_cons_succ, List.setIfInBounds_toArray, List.set_cons_zero, List.set_cons_succ]
                refine wpAnyH_take (i := 17) (v := ?_) rfl (by kernel_rfl) (by kernel_rfl) (by kernel_rfl) (fun _ _ _ h => h) (Or.inl ⟨by rfl, ?_⟩) (HSZ.out _ z9.out) ?_
                rotate_left
                · intro w hSw; (try dsimp only at hSw); go_simp; try with_reducible rfl
                try simp only [Act.put, List.getElem_toArray, List.getElem_cons_zero, List.getElem_cons_succ, List.setIfInBounds_toArray, List.set_cons_zero, List.set_cons_succ]
                refine wpAnyH_take (i := 18) (v := ?_) rfl (by kernel_rfl) (by kernel_rfl) (by kernel_rfl) (fun _ _ _ h => h) (Or.inl ⟨by rfl, ?_⟩) (HSZ.out _ z9.out) ?_
                rotate_left
                · intro w hSw; (try dsimp only at hSw); go_simp; try with_reducible rfl
                try simp only [Act.put, List.getElem_toArray, List.getElem_cons_zero, List.getElem_cons_succ, List.setIfInBounds_toArray, List.set_cons_zero, List.set_cons_succ]
                refine wpAnyH_take (i := 19) (v := ?_) rfl (by kernel_rfl) (by kernel_rfl) (by kernel_rfl) (fun _ _ _ h => h) (Or.inl ⟨by rfl, ?_⟩) (HSZ.out _ z9.out) ?_
                rotate_left
                · intro w hSw; (try dsimp only at hSw); go_simp; try with_reducible rfl
                try simp only [Act.put, List.getElem_toArray, List.getElem_cons_zero, List.getElem_cons_succ, List.setIfInBounds_toArray, List.set_cons_zero, List.set_cons_succ]
                refine wpAnyH_done (by kernel_rfl) ?_ _
                have HF : Hid (RcI w G L (chF k (L.take (j + 1))) _) := Lib.hid (by rw [HSt.out HT.out]; exact z9.out.1)
                go_wp2
                go_roundw
                case rel => exact ⟨j + 1, by go_num, by omega, HF.out⟩
                case measure => simp [intOf]; omega
              · have hk := hk.resolve_left hk1
                have hk1f : (k == -1) = false := by rw [beq_eq_false_iff_ne]; exact hk1
                have hk2t : (k == x0) = true := by simpa using hk
                clear hk hk1
                refine wp_region_held_drew (S := fun wz => wz.cell? ⟨X, 0, none⟩ = some (.int .i64 x0) ∧ wz.cell? ⟨w.heap.size + 1, 1, none⟩ = some (.int .i64 b1) ∧ RowAt wz (w.heap.size + 1) 27 #[.int .i64 b0, .int .i64 b1, .int .i64 b2] ∧ RowAt wz X 27 #[.int .i64 x0, .int .i64 x1, .int .i64 x2]) (by kernel_rfl) (HSZ.out _ z0.out) (fun hHeld => ?_)
                clear hHeld
                refine wpAnyH_take (i := 0) (v := ?_) rfl (by kernel_rfl) (by kernel_rfl) (by kernel_rfl) (fun _ _ _ h => h) (Or.inl ⟨by rfl, ?_⟩) (HSZ.out _ z0.out) ?_
                rotate_left
                · intro w hSw; (try dsimp only at hSw); go_simp; try with_reducible rfl
                try simp only [Act.put, List.getElem_toArray, List.getElem_cons_zero, List.getElem_cons_succ, List.setIfInBounds_toArray, List.set_cons_zero, List.set_cons_succ]
                refine wpAnyH_take (i := 1) (v := ?_) rfl (by kernel_rfl) (by kernel_rfl) (by kernel_rfl) (fun _ _ _ h => h) (Or.inl ⟨by rfl, ?_⟩) (HSZ.out _ z0.out) ?_
                rotate_left
                · intro w hSw; (try dsimp only at hSw); go_simp; try with_reducible rfl
                try simp only [Act.put, List.getElem_toArray, List.getElem_cons_zero, List.getElem_cons_succ, List.setIfInBounds_toArray, List.set_cons_zero, List.set_cons_succ]
                refine wpAnyH_take (i := 2) (v := ?_) rfl (by kernel_rfl) (by kernel_rfl) (by kernel_rfl) (fun _ _ _ h => h) (Or.inl ⟨by rfl, ?_⟩) (HSZ.out _ z0.out) ?_
                rotate_left
                · intro w hSw; (try dsimp only at hSw); go_simp; try with_reducible rfl
                try simp only [Act.put, List.getElem_toArray, List.getElem_cons_zero, List.getElem_cons_succ, List.setIfInBounds_toArray, List.set_cons_zero, List.set_cons_succ]
                refine wpAnyH_take (i := 3) (v := ?_) rfl (by kernel_rfl) (by kernel_rfl) (by kernel_rfl) (fun _ _ _ h => h) (Or.inl ⟨by rfl, ?_⟩) (HSZ.out _ z0.out) ?_
                rotate_left
                · intro w hSw; (try dsimp only at hSw); go_simp; try with_reducible rfl
                try simp only [Act.put, List.getElem_toArray, List.getElem_cons_zero, List.getElem_cons_succ, List.setIfInBounds_toArray, List.set_cons_zero, List.set_cons_succ]
                refine wpAnyH_take (i := 4) (v := ?_) rfl (by kernel_rfl) (by kernel_rfl) (by kernel_rfl) (fun _ _ _ h => h) (Or.inl ⟨by rfl, ?_⟩) (HSZ.out _ z0.out) ?_
                rotate_left
                · intro w hSw; (try dsimp only at hSw); go_simp; try with_reducible rfl
                try simp only [Act.put, List.getElem_toArray, List.getElem_cons_zero, List.getElem_cons_succ, List.setIfInBounds_toArray, List.set_cons_zero, List.set_cons_succ]
                refine wpAnyH_take (i := 5) (v := ?_) rfl (by kernel_rfl) (by kernel_rfl) (by kernel_rfl) (fun _ _ _ h => h) (Or.inl ⟨by rfl, ?_⟩) (HSZ.out _ z0.out) ?_
                rotate_left
                · intro w hSw; (try dsimp only at hSw); go_simp; try with_reducible rfl
                try simp only [Act.put, List.getElem_toArray, List.getElem_cons_zero, List.getElem_cons_succ, List.setIfInBounds_toArray, List.set_cons_zero, List.set_cons_succ]
                refine wpAnyH_take (i := 6) (v := ?_) rfl (by kernel_rfl) (by kernel_rfl) (by kernel_rfl) (fun _ _ _ h => h) (Or.inl ⟨by rfl, ?_⟩) (HSZ.out _ z0.out) ?_
                rotate_left
                · intro w hSw; (try dsimp only at hSw); go_simp; try with_reducible rfl
                try simp only [Act.put, List.getElem_toArray, List.getElem_cons_zero, List.getElem_cons_succ, List.setIfInBounds_toArray, List.set_cons_zero, List.set_cons_succ]
                refine wpAnyH_take (i := 7) (v := ?_) rfl (by kernel_rfl) (by kernel_rfl) (by kernel_rfl) (fun _ _ _ h => h) (Or.inl ⟨by rfl, ?_⟩) (HSZ.out _ z0.out) ?_
                rotate_left
                · intro w hSw; (try dsimp only at hSw); go_simp; try with_reducible rfl
                try simp only [Act.put, List.getElem_toArray, List.getElem_cons_zero, List.getElem_cons_succ, List.setIfInBounds_toArray, List.set_cons_zero, List.set_cons_succ]
                refine wpAnyH_take (i := 8) (v := ?_) rfl (by kernel_rfl) (by kernel_rfl) (by kernel_rfl) (fun _ _ _ h => h) (Or.inl ⟨by rfl, ?_⟩) (HSZ.out _ z0.out) ?_
                rotate_left
                · intro w hSw; (try dsimp only at hSw); go_simp; try with_reducible rfl
                try simp only [Act.put, List.getElem_toArray, List.getElem_cons_zero, List.getElem_cons_succ, List.setIfInBounds_toArray, List.set_cons_zero, List.set_cons_succ]
                refine wpAnyH_take (i := 9) (v := ?_) rfl (by kernel_rfl) (by kernel_rfl) (by kernel_rfl) (fun _ _ _ h => h) (Or.inl ⟨by rfl, ?_⟩) (HSZ.out _ z0.out) ?_
                rotate_left
                · intro w hSw; (try dsimp only at hSw); go_simp; try with_reducible rfl
                try simp only [Act.put, List.getElem_toArray, List.getElem_cons_zero, List.getElem_cons_succ, List.setIfInBounds_toArray, List.set_cons_zero, List.set_cons_succ]
                refine wpAnyH_take (i := 10) (v := ?_) rfl (by kernel_rfl) (by kernel_rfl) (by kernel_rfl) (fun _ _ _ h => h) (Or.inl ⟨by rfl, ?_⟩) (HSZ.out _ z0.out) ?_
                rotate_left
                · intro w hSw; (try dsimp only at hSw); go_simp; try with_reducible rfl
                try simp only [Act.put, List.getElem_toArray, List.getElem_cons_zero, List.getElem_cons_succ, List.setIfInBounds_toArray, List.set_cons_zero, List.set_cons_succ]
                refine wpAnyH_take (i := 11) (v := ?_) rfl (by kernel_rfl) (by kernel_rfl) (by kernel_rfl) (fun _ _ _ h => h) (Or.inl ⟨by rfl, ?_⟩) (HSZ.out _ z0.out) ?_
                rotate_left
                · intro w hSw; (try dsimp only at hSw); go_simp; try with_reducible rfl
                try simp only [Act.put, List.getElem_toArray, List.getElem_cons_zero, List.getElem_cons_succ, List.setIfInBounds_toArray, List.set_cons_zero, List.set_cons_succ]
                refine wpAnyH_take (i := 12) (v := ?_) rfl (by kernel_rfl) (by kernel_rfl) (by kernel_rfl) (fun _ _ _ h => h) (Or.inl ⟨by rfl, ?_⟩) (HSZ.out _ z0.out) ?_
                rotate_left
                · intro w hSw; (try dsimp only at hSw); go_simp; try with_reducible rfl
                try simp only [Act.put, List.getElem_toArray, List.getElem_cons_zero, List.getElem_cons_succ, List.setIfInBounds_toArray, List.set_cons_zero, List.set_cons_succ]
                refine wpAnyH_take (i := 13) rfl (by kernel_rfl) (by kernel_rfl) (by kernel_rfl) (fun _ _ _ h => h) (yieldsIf_load_row (by rfl) _ _ rfl _ rfl _ _ _ (fun wz h => h.2.2.2) Tryz.underlying27 rfl (by exact size_rplan)) (HSZ.out _ z0.out) ?_
                try simp only [Act.put, List.getElem_toArray, List.getElem_cons_zero, List.getElem_cons_succ, List.setIfInBounds_toArray, List.set_cons_zero, List.set_cons_succ]
                refine wpAnyH_take (i := 15) rfl (by kernel_rfl) (by kernel_rfl) (by kernel_rfl) (fun _ _ _ h => h) (yieldsIf_load_row (by rfl) _ _ rfl _ rfl _ _ _ (fun wz h => h.2.2.1) Tryz.underlying27 rfl (by exact size_rplan)) (HSZ.out _ z0.out) ?_
                try simp only [Act.put, List.getElem_toArray, List.getElem_cons_zero, List.getElem_cons_succ, List.setIfInBounds_toArray, List.set_cons_zero, List.set_cons_succ]
                refine wpAnyH_ready (rs := [14]) (by kernel_rfl) (by simp) ?_
                refine AllReadyH.cons rfl (fun K hK => ?_) AllReadyH.nil
                try simp only [List.getElem_toArray, List.getElem_cons_zero, List.getElem_cons_succ]
                rw [if_pos (by rfl)]
                go_wp2_with (go_at_call 19; refine (HX.out _).mono ?_; rintro e w8 ⟨rfl, hY⟩)
                have z8 := Lib.hid (KP.out _ _ z0.out hY)
                clear hY
                refine hK.out _ _ ((HSZ.out _ z8.out)) (fun _ => ?_)
                clear hK K
                try simp only [Act.put, List.getElem_toArray, List.getElem_cons_zero, List.getElem_cons_succ, List.setIfInBounds_toArray, List.set_cons_zero, List.set_cons_succ]
                refine wpAnyH_ready (rs := [16]) (by kernel_rfl) (by simp) ?_
                refine AllReadyH.cons rfl (fun K hK => ?_) AllReadyH.nil
                try simp only [List.getElem_toArray, List.getElem_cons_zero, List.getElem_cons_succ]
                rw [if_pos (by rfl)]
                go_wp2_with (go_at_call 19; refine (HB.out _).mono ?_; rintro e w9 ⟨rfl, hY⟩)
                have z9 := Lib.hid (KP.out _ _ z8.out hY)
                clear hY
                refine hK.out _ _ ((HSZ.out _ z9.out)) (fun _ => ?_)
                clear hK K
                try simp only [Act.put, List.getElem_toArray, List.getElem_cons_zero, List.getElem_cons_succ, List.setIfInBounds_toArray, List.set_cons_zero, List.set_cons_succ]
                refine wpAnyH_take (i := 17) (v := ?_) rfl (by kernel_rfl) (by kernel_rfl) (by kernel_rfl) (fun _ _ _ h => h) (Or.inl ⟨by rfl, ?_⟩) (HSZ.out _ z9.out) ?_
                rotate_left
                · intro w hSw; (try dsimp only at hSw); go_simp; try with_reducible rfl
                try simp only [Act.put, List.getElem_toArray, List.getElem_cons_zero, List.getElem_cons_succ, List.setIfInBounds_toArray, List.set_cons_zero, List.set_cons_succ]
                refine wpAnyH_take (i := 18) (v := ?_) rfl (by kernel_rfl) (by kernel_rfl) (by kernel_rfl) (fun _ _ _ h => h) (Or.inl ⟨by rfl, ?_⟩) (HSZ.out _ z9.out) ?_
                rotate_left
                · intro w hSw; (try dsimp only at hSw); go_simp; try with_reducible rfl
                try simp only [Act.put, List.getElem_toArray, List.getElem_cons_zero, List.getElem_cons_succ, List.setIfInBounds_toArray, List.set_cons_zero, List.set_cons_succ]
                refine wpAnyH_take (i := 19) (v := ?_) rfl (by kernel_rfl) (by kernel_rfl) (by kernel_rfl) (fun _ _ _ h => h) (Or.inl ⟨by rfl, ?_⟩) (HSZ.out _ z9.out) ?_
                rotate_left
                · intro w hSw; (try dsimp only at hSw); go_simp; try with_reducible rfl
                try simp only [Act.put, List.getElem_toArray, List.getElem_cons_zero, List.getElem_cons_succ, List.setIfInBounds_toArray, List.set_cons_zero, List.set_cons_succ]
                refine wpAnyH_done (by kernel_rfl) ?_ _
                have HF : Hid (RcI w G L (chF k (L.take (j + 1))) _) := Lib.hid (by rw [HSt.out HT.out]; exact z9.out.1)
                go_wp2
                go_roundw
                case rel => exact ⟨j + 1, by go_num, by omega, HF.out⟩
                case measure => simp [intOf]; omega
      · obtain rfl : j = L.length := by omega
        rw [List.take_length] at hW
        rw [← HC.out] at hW
        have HW := Lib.hid hW
        have tl : decide ((L.length : Int) < (L.length : Int)) = false := by simp
        have d1 := HW.out.best.cell (i := 1) (v := .int .i64 c1) rfl
        have R3 := Lib.hid (HW.out.res.setRow (cellsP (c0, c1, c2)))
        have HB3 := Lib.hid (below_setRow HW.out.below (Nat.le_refl _) (cellsP (c0, c1, c2)))
        clear hW HAa
        by_cases hz : c1 = 0
        · have h0 : (c0, c1, c2) = ((0 : Int), (0 : Int), (0 : Int)) := HCc.out.resolve_right (fun h => by have := canB_N h; simp at this; omega)
          have he : Hid (er = 11) := Lib.hid (by rw [HE.out, if_pos h0])
          have hz1 : (c1 == 0) = true := by simpa using hz
          clear hz h0 HC HE HCc
          go_wp2_with (first | (refine wpList_load_row rfl _ _ rfl _ rfl _ _ _ _ (HW.out.best) Tryz.underlying27 rfl (by exact size_rplan) ?_) | (refine wpList_store_row rfl _ _ _ rfl _ _ rfl rfl _ _ (HW.out.res) (by exact size_rplan) rfl (plan_one _ _ _) ?_))
          refine bodyPost_ret (results_row_tmp rfl _ _ _ _ _ _ rfl R3.out Tryz.underlying27 rfl (by exact size_rplan)) (by rfl) ?_
          exact ⟨by rw [he.out]; rfl, HB3.out⟩
        · have hz1 : (c1 == 0) = false := by simpa using hz
          have he : Hid (er = 0) := Lib.hid (by rw [HE.out, if_neg (fun h => hz (by injection h with h1 h2; injection h2 with h2 h3))])
          clear hz HC HE HCc
          go_wp2_with (first | (refine wpList_load_row rfl _ _ rfl _ rfl _ _ _ _ (HW.out.best) Tryz.underlying27 rfl (by exact size_rplan) ?_) | (refine wpList_store_row rfl _ _ _ rfl _ _ rfl rfl _ _ (HW.out.res) (by exact size_rplan) rfl (plan_one _ _ _) ?_))
          refine bodyPost_ret (results_row_tmp rfl _ _ _ _ _ _ rfl R3.out Tryz.underlying27 rfl (by exact size_rplan)) (by rfl) ?_
          exact ⟨by rw [he.out]; rfl, HB3.out⟩
end Go.Proofs.YtmalmijdjhkklaaGreat
