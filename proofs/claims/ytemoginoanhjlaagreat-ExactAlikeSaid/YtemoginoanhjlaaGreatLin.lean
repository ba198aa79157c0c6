/- convolve: good, times, Linear. -/
import Derived.Test.YtemoginoanhjlaaGreatWR2UR2D
import Derived.Test.YtemoginoanhjlaaGreatWR2MToPadM
import Derived.Test.YtemoginoanhjlaaGreatWP2ToR2A
import Derived.Test.YtemoginoanhjlaaGreatApz
import Derived.Test.YtemoginoanhjlaaGreatQTail
set_option linter.unusedVariables false
set_option linter.unusedSimpArgs false
set_option linter.unusedSectionVars false
set_option linter.unusedVariables false
set_option linter.unusedSimpArgs false
namespace Go.Proofs.YtemoginoanhjlaaGreat
open Go.RowKit
open Alg
theorem cgood_fd {w : World} {v : Value} {p g : Int} (h : Fd w w.heap.size v p g) (A B : Option Addr) (c d : Nat) (L M : List Int) (hl : L.length ≤ 140737488351232) (hm : M.length ≤ 140737488351232) (hU : U64s L) (hU' : U64s M) (hR : RdI w w.heap.size .u64 A L) (hS : RdI w w.heap.size .u64 B M) :
    Calls Tryz.prog 179 #[v, .slice A L.length c, .slice B M.length d] w fun e w' => e = .returned (.bool (goodB p L && goodB p M)) ∧ w = w' := by
  have h1 := Lib.hid (good_fd h A c w.heap.size L hl hU hR)
  have h2 := Lib.hid (good_fd h B d w.heap.size M hm hU' hS)
  obtain ⟨a, ha⟩ : ∃ a, a = goodB p L := ⟨_, rfl⟩
  obtain ⟨b, hb⟩ : ∃ b, b = goodB p M := ⟨_, rfl⟩
  rw [← ha] at h1 ⊢
  rw [← hb] at h2 ⊢
  clear ha hb h hU hU' hR hS
  cases a
  · go_enter Tryz.func179, Tryz.ntmps179
    go_wp2_with fail
    refine h1.out.mono ?_
    rintro e w1 ⟨rfl, rfl⟩
    go_wp2
    go_ret
    exact ⟨rfl, rfl⟩
  · go_enter Tryz.func179, Tryz.ntmps179
    go_wp2_with fail
    refine h1.out.mono ?_
    rintro e w1 ⟨rfl, rfl⟩
    go_wp2_with fail
    refine h2.out.mono ?_
    rintro e w1 ⟨rfl, rfl⟩
    go_wp2
    go_ret
    exact ⟨by first | rfl | simp, rfl⟩
set_option maxHeartbeats 2000000 in
theorem times_fd {p : Nat} [NeZero p] {w : World} {v : Value} {g : Int} (h : Fd w w.heap.size v p g) (N : Nat) (hN0 : 0 < N) (hN : N ≤ 4294967296) (A B : Option Addr) (c d : Nat) (X Y : Nat → Fin p) (hA : RdI w w.heap.size .u64 A (lst N X)) (hB : RdI w w.heap.size .u64 B (lst N Y)) :
    Calls Tryz.prog 180 #[v, .slice A N c, .slice B N d] w fun r w' => ∃ V, r = .returned V ∧ OwnU w' w.heap.size V N (lst N fun j => X j * Y j) ∧ Below w.heap.size w w' := by
  obtain ⟨i0, hi, hz0, hz1, hz2⟩ := info_parts info_u64
  have HPM := Lib.hid (And.intro h.p3 h.pmx)
  have HF := Lib.hid h
  obtain ⟨bA, oA, rfl, hbA, hcA⟩ := hA (by rw [lst_length]; omega)
  obtain ⟨bB, oB, rfl, hbB, hcB⟩ := hB (by rw [lst_length]; omega)
  have HcA : Hid (∀ i, i < N → w.cell? ⟨bA, oA + i, none⟩ = some (.int .u64 ((X i).val : Int))) := Lib.hid (fun i hi => by
    have h1 := hcA i (by rw [lst_length]; exact hi)
    rw [lst_get hi] at h1
    exact h1)
  have HcB : Hid (∀ i, i < N → w.cell? ⟨bB, oB + i, none⟩ = some (.int .u64 ((Y i).val : Int))) := Lib.hid (fun i hi => by
    have h1 := hcB i (by rw [lst_length]; exact hi)
    rw [lst_get hi] at h1
    exact h1)
  clear h hA hB hcA hcB
  go_enter Tryz.func180, Tryz.ntmps180
  go_wp2_with (at_make; refine wpList_make_full _ rfl _ _ 64 rfl w.heap.size 22 i0 (.int .u64 0) 1 Tryz.underlying64 hi hz0 hz1 _ _ _ _ N rfl rfl ?l1 ?l2 ?b2 ?b3 (Nat.le_refl _) ?_)
  case l1 => omega
  case l2 => omega
  case b2 => rw [hz2]; omega
  case b3 => unfold maxLen; omega
  intro w8 hown hgrow
  have hown0 : OwnU w8 w.heap.size (.slice (some ⟨w.heap.size, 0, none⟩) N N) N (part N (fun j => ((X j * Y j : Fin p).val : Int)) 0) := by
    unfold OwnU
    rw [part_zero, ints_zero', ← toList_madeCells_one]; exact hown
  have hB8 : Below w.heap.size w w8 := (Below.refl _ _).grown hgrow (Nat.le_refl _) (fun k h => by cases h)
  obtain ⟨G, hG⟩ : ∃ G, G = w.heap.size := ⟨_, rfl⟩
  rw [← hG]
  have hGe : w.heap.size ≤ G := by omega
  have nSG : bA ≠ G := by omega
  have nCG : bB ≠ G := by omega
  have nSG' : G ≠ bA := by omega
  have nCG' : G ≠ bB := by omega
  rw [show (⟨w.heap.size, 0, none⟩ : Addr) = ⟨G, 0, none⟩ by rw [hG]] at hown0
  have HO8 := Lib.hid hown0
  have HB8 := Lib.hid hB8
  clear hown hgrow hown0 hB8 hG
  go_wp2
  go_loopw [14] (fun I wr => ∃ i : Nat, I = .int .i64 i ∧ i ≤ N ∧ Hid (OwnU wr w.heap.size (.slice (some ⟨G, 0, none⟩) N N) N (part N (fun j => ((X j * Y j : Fin p).val : Int)) i)) ∧ Hid (Below w.heap.size w wr)) (fun I _ => N - (intOf I).toNat)
  case atStart => exact ⟨0, rfl, by omega, HO8, HB8⟩
  case round =>
    clear HO8 HB8
    obtain ⟨i, rfl, hiN, hO, hBr⟩ := hrel
    by_cases hlt : i < N
    · have c0 := cell_keep hBr.out hbA (HcA.out i hlt)
      have c1 := cell_keep hBr.out hbB (HcB.out i hlt)
      have hF1 := HF.out.below hBr.out
      have hlp : ∀ x : Fin p, 0 ≤ ((x.val : Nat) : Int) ∧ ((x.val : Nat) : Int) ≤ 18446744073709551615 := fun x => by have := x.isLt; have := HPM.out.2; omega
      have hst : (part N (fun j => ((X j * Y j : Fin p).val : Int)) i).set i ((X i * Y i : Fin p).val : Int) = part N (fun j => ((X j * Y j : Fin p).val : Int)) (i + 1) := part_step
      obtain ⟨x0, hx0⟩ : ∃ x0, x0 = X i := ⟨_, rfl⟩
      obtain ⟨y0, hy0⟩ : ∃ y0, y0 = Y i := ⟨_, rfl⟩
      rw [← hx0] at c0 hst
      rw [← hy0] at c1 hst
      have HMu : Hid (∀ n, Calls Tryz.prog 157 #[v, .int .u64 (x0.val : Int), .int .u64 (y0.val : Int)] (wr.drewN n) fun e w' => e = .returned (.int .u64 ((x0 * y0).val : Int)) ∧ ∃ k, w' = (wr.drewN n).drewN k) := Lib.hid (fun n => by
        have h1 := fmul_fd (hF1.drewN n) (x0.val : Int) (y0.val : Int) (hlp x0).1 (hlp x0).2 (hlp y0).1 (hlp y0).2
        rw [ev_mul, zt_of_val, zt_of_val] at h1
        exact h1)
      obtain ⟨z0, hz0'⟩ : ∃ z0, z0 = x0 * y0 := ⟨_, rfl⟩
      rw [← hz0'] at HMu hst
      have HST := Lib.hid hst
      obtain ⟨g0', f0, _⟩ := own_set hO.out i hlt
      have i1 : (0 : Int) ≤ (i : Int) := by omega
      have i2 : (i : Int) < (N : Int) := by omega
      clear hx0 hy0 hst hz0' hlp hF1
      go_upto_region 5 with fail
      refine wp_region_qtail 12 (by kernel_rfl) (by kernel_rfl) ?_
      simp only [List.take_succ_cons, List.take_zero, List.drop_succ_cons, List.drop_zero]
      repeat (go_big_quiet_step ((first | (go_at_call 157; exact Calls.quiet_of (HMu.out _)))))
      refine wpQuiet_nil ?_
      intro _ hw'
      obtain ⟨nq, hw''⟩ := hw'
      subst hw''
      have hO1 := ((hO.out.drewN nq).set i hlt (z0.val : Int)).1
      rw [HST.out] at hO1
      have HO1 := Lib.hid hO1
      have HB1 : Hid (Below w.heap.size w ((wr.drewN nq).setCell ⟨G, i, none⟩ (.int .u64 (z0.val : Int)))) := Lib.hid ((below_drewN hBr.out nq).setCell hGe _)
      clear hO1 hO hBr
      go_wp2
      go_roundw
      case rel => exact ⟨i + 1, by go_num, by omega, HO1, HB1⟩
      case measure => simp [intOf]; omega
    · have hie : i = N := by omega
      have hO1 := hO.out
      have hpf : part N (fun j => ((X j * Y j : Fin p).val : Int)) N = lst N fun j => X j * Y j := part_full _ _
      rw [hie, hpf] at hO1
      have HO1 := Lib.hid hO1
      clear hie hO1 hO hpf
      go_wp2
      go_ret
      exact ⟨_, rfl, HO1.out, hBr.out⟩
/-- The product straight on, of two lists. -/
def lcv (p : Nat) [NeZero p] (L M : List Int) (i : Nat) : Fin p := cv (padz L.length (rz p L)) (padz M.length (rz p M)) i
/-- Which error. -/
def linf (p : Int) (L M : List Int) : Int :=
  if L.length = 0 ∨ M.length = 0 then 1 else if 1024 < (L.length : Int) + (M.length : Int) - 1 then 13 else if fitR (pd ((L.length : Int) + (M.length : Int) - 1)) p = false then 4 else if (goodB p L && goodB p M) = false then 9 else 0
theorem linf_parts {p : Int} {L M : List Int} (h : linf p L M = 0) : 0 < L.length ∧ 0 < M.length ∧ (L.length : Int) + (M.length : Int) - 1 ≤ 1024 ∧ fitR (pd ((L.length : Int) + (M.length : Int) - 1)) p = true ∧ goodB p L = true ∧ goodB p M = true := by
  unfold linf at h
  split at h
  · omega
  · rename_i h1
    split at h
    · omega
    · rename_i h2
      split at h
      · omega
      · rename_i h3
        split at h
        · omega
        · rename_i h4
          simp only [Bool.not_eq_false, Bool.and_eq_true] at h4
          exact ⟨by omega, by omega, by omega, by simpa using h3, h4.1, h4.2⟩
set_option maxHeartbeats 4000000 in
set_option maxRecDepth 100000 in
theorem lin_yes {p : Nat} [NeZero p] {w : World} {v : Value} {g : Int} (hp : Prime p) (hg : Ord (zt p g) (p - 1)) (g0 : 0 ≤ g) (g1 : g < p) (h : Fd w w.heap.size v p g) (AA AB : Option Addr) (cA cB : Nat) (L M : List Int)
    (hU : U64s L) (hU' : U64s M) (hA : RdI w w.heap.size .u64 AA L) (hB : RdI w w.heap.size .u64 AB M) (hf : linf p L M = 0) :
    Calls Tryz.prog 123 #[v, .slice AA L.length cA, .slice AB M.length cB] w fun r w' => ∃ G, r = .returned (.tuple #[.slice (some ⟨G, 0, none⟩) (L.length + M.length - 1 : Nat) (L.length + M.length - 1 : Nat), .int .i64 0]) ∧ w.heap.size ≤ G ∧ G < w'.heap.size ∧
      (∀ i, i < L.length + M.length - 1 → w'.cell? ⟨G, i, none⟩ = some (.int .u64 ((lcv p L M i).val : Int))) ∧ Below w.heap.size w w' := by
  obtain ⟨fb, rfl⟩ : ∃ fb, v = .pointer (some ⟨fb, 0, none⟩) := by
    obtain ⟨b, c, t, o, s, sv, hv, _⟩ := h
    exact ⟨b, hv⟩
  obtain ⟨i0, hi, hz0, hz1, hz2⟩ := info_parts info_u64
  obtain ⟨l1, l2, l3, hft, hg1, hg2⟩ := linf_parts hf
  obtain ⟨hq2, hq3, hq4, hq5⟩ := pd_spec (show (L.length : Int) + (M.length : Int) - 1 ≤ 4096 by omega)
  have hck := fitR_chk hft hq5
  have HPM := Lib.hid (And.intro h.p3 h.pmx)
  have HF := Lib.hid h
  have hPd := Lib.hid (fun wz => pad2_any ((L.length : Int) + (M.length : Int) - 1) wz (by omega) (by omega))
  have hDv : Hid (Calls Tryz.prog 49 #[.pointer (some ⟨fb, 0, none⟩), .int .i64 (pd ((L.length : Int) + (M.length : Int) - 1))] w fun e w' => e = .returned (.bool true) ∧ w = w') := Lib.hid (by
    have h1 := divides_fd h (pd ((L.length : Int) + (M.length : Int) - 1)) (by omega) (by omega)
    rw [show (decide (0 < pd ((L.length : Int) + (M.length : Int) - 1)) && (((p : Int) - 1) % pd ((L.length : Int) + (M.length : Int) - 1) == 0)) = true from hft] at h1
    exact h1)
  have hGd := Lib.hid (cgood_fd h AA AB cA cB L M (by omega) (by omega) hU hU' hA hB)
  rw [hg1, hg2] at hGd
  obtain ⟨N, hN⟩ : ∃ N : Nat, (N : Int) = pd ((L.length : Int) + (M.length : Int) - 1) := ⟨(pd ((L.length : Int) + (M.length : Int) - 1)).toNat, by omega⟩
  rw [← hN] at hq2 hq3 hq4 hq5 hck hPd hDv
  obtain ⟨hdv, hN0⟩ := chk_dvd (by have := hp.1; omega) hck
  obtain ⟨bA, oA, rfl, hbA, hcA⟩ := hA l1
  obtain ⟨bB, oB, rfl, hbB, hcB⟩ := hB l2
  have HcA := Lib.hid (rd_cells hcA)
  have HcB := Lib.hid (rd_cells hcB)
  have hLr := lst_rz hg1 hU
  have hMr := lst_rz hg2 hU'
  have HpA : Hid (L ++ List.replicate (N - L.length) 0 = lst N (padz L.length (rz p L))) := Lib.hid (by
    have h1 := pad_lst (show L.length ≤ N by omega) (rz p L)
    rw [hLr] at h1; exact h1)
  have HpB : Hid (M ++ List.replicate (N - M.length) 0 = lst N (padz M.length (rz p M))) := Lib.hid (by
    have h1 := pad_lst (show M.length ≤ N by omega) (rz p M)
    rw [hMr] at h1; exact h1)
  have HlA : Hid ((ints .u64 L).length = L.length * 1) := Lib.hid (by rw [ints_length]; omega)
  have HlB : Hid ((ints .u64 M).length = M.length * 1) := Lib.hid (by rw [ints_length]; omega)
  have hff : ∀ F : Nat → Fin p, fault13 p (lst N F) = 0 := fun F => fault13_lst F hck hq2
  have HDn : Hid (∀ (F : Nat → Fin p) wz (V : Value) (B : Nat), Below w.heap.size w wz → B ≤ wz.heap.size → OwnU wz B V N (lst N F) → Calls Tryz.prog 85 #[.pointer (some ⟨fb, 0, none⟩), V, .bool false] wz fun e w' => ∃ V, e = .returned (.tuple #[V, .int .i64 0]) ∧ OwnU w' wz.heap.size V N (lst N (tr (zt p g) N false F)) ∧ Below wz.heap.size wz w') := Lib.hid (fun F wz V B hz hB hV => by
    obtain ⟨X, cx, rfl, hR⟩ := hV.rd
    have h1 := down_yes hp hg g0 g1 ((HF.out.below hz).mono hz.size) X cx (lst N F) false (lst_u64 HPM.out.2 _ _) hR (hff F)
    have h2 : lst N (tr (zt p g) N false (rz p (lst N F))) = lst N (tr (zt p g) N false F) := lst_congr fun i _ => tr_rz _ _ _ _ _
    rw [lst_length, h2] at h1
    exact h1)
  have HUp : Hid (∀ (F : Nat → Fin p) wz (V : Value) (B : Nat), Below w.heap.size w wz → B ≤ wz.heap.size → OwnU wz B V N (lst N F) → Calls Tryz.prog 158 #[.pointer (some ⟨fb, 0, none⟩), V, .bool true] wz fun e w' => ∃ V, e = .returned (.tuple #[V, .int .i64 0]) ∧ OwnU w' wz.heap.size V N (lst N (tr (zt p g) N true F)) ∧ Below wz.heap.size wz w') := Lib.hid (fun F wz V B hz hB hV => by
    obtain ⟨X, cx, rfl, hR⟩ := hV.rd
    have h1 := up_yes hp hg g0 g1 ((HF.out.below hz).mono hz.size) X cx (lst N F) true (lst_u64 HPM.out.2 _ _) hR (hff F)
    have h2 : lst N (tr (zt p g) N true (rz p (lst N F))) = lst N (tr (zt p g) N true F) := lst_congr fun i _ => tr_rz _ _ _ _ _
    rw [lst_length, h2] at h1
    exact h1)
  obtain ⟨X, hX⟩ : ∃ X, X = tr (zt p g) N false (padz L.length (rz p L)) := ⟨_, rfl⟩
  obtain ⟨Y, hY⟩ : ∃ Y, Y = tr (zt p g) N false (padz M.length (rz p M)) := ⟨_, rfl⟩
  have HU1 := Lib.hid (HDn.out (padz L.length (rz p L)))
  have HU2 := Lib.hid (HDn.out (padz M.length (rz p M)))
  have HU3 := Lib.hid (HUp.out (fun j => X j * Y j))
  have HTm : Hid (∀ wz (A B : Option Addr) (c d : Nat), Below w.heap.size w wz → RdI wz wz.heap.size .u64 A (lst N X) → RdI wz wz.heap.size .u64 B (lst N Y) → Calls Tryz.prog 180 #[.pointer (some ⟨fb, 0, none⟩), .slice A N c, .slice B N d] wz fun r w' => ∃ V, r = .returned V ∧ OwnU w' wz.heap.size V N (lst N fun j => X j * Y j) ∧ Below wz.heap.size wz w') := Lib.hid (fun wz A B c d hz hA hB => times_fd ((HF.out.below hz).mono hz.size) N hN0 (by omega) A B c d X Y hA hB)
  have hcy : lst N (tr (zt p g) N true (fun j => X j * Y j)) = lst N (cyc N (padz L.length (rz p L)) (padz M.length (rz p M))) := lst_congr fun i hi => by rw [hX, hY]; exact tr_cyc hp hg hdv hN0 _ _ i hi
  rw [← hX] at HU1
  rw [← hY] at HU2
  rw [hcy] at HU3
  obtain ⟨C, hC⟩ : ∃ C, C = cyc N (padz L.length (rz p L)) (padz M.length (rz p M)) := ⟨_, rfl⟩
  have HCv : Hid (∀ i, i < L.length + M.length - 1 → C i = lcv p L M i) := Lib.hid (fun i hi => by
    rw [hC]
    exact cyc_lin (by omega) (fun j h => padz_out h) (fun j h => padz_out h) (by omega))
  rw [← hC] at HU3
  have e1 : (N : Int) - (L.length : Int) = ((N - L.length : Nat) : Int) := by omega
  have e2 : (N : Int) - (M.length : Int) = ((N - M.length : Nat) : Int) := by omega
  have e3 : (L.length : Int) + (M.length : Int) - 1 = ((L.length + M.length - 1 : Nat) : Int) := by omega
  rw [e3] at hPd
  obtain ⟨m1, hm1⟩ : ∃ m, m = N - L.length := ⟨_, rfl⟩
  obtain ⟨m2, hm2⟩ : ∃ m, m = N - M.length := ⟨_, rfl⟩
  obtain ⟨n, hn⟩ : ∃ n, n = L.length + M.length - 1 := ⟨_, rfl⟩
  rw [← hm1] at HpA e1
  rw [← hm2] at HpB e2
  rw [← hn] at e3 hPd HCv ⊢
  have HmA : Hid (L.length + m1 = N) := Lib.hid (by omega)
  have HmB : Hid (M.length + m2 = N) := Lib.hid (by omega)
  have hm1b : L.length + m1 ≤ 4096 := by omega
  have hm2b : M.length + m2 ≤ 4096 := by omega
  have hnN : n ≤ N := by omega
  have hn4 : n ≤ 1024 := by omega
  have hN4 : N ≤ 4096 := by omega
  have t1 : ((L.length : Int) == 0) = false := beq_eq_false_iff_ne.2 (by omega)
  have t2 : ((M.length : Int) == 0) = false := beq_eq_false_iff_ne.2 (by omega)
  have t3 : decide ((1024 : Int) < (n : Int)) = false := by simp; omega
  have hU := Tryz.underlying3
  clear h hA hB hcA hcB hff HUp HDn hcy hX hY hC hm1 hm2 hn hdv hck hq2 hq3 hq4 hq5 hN hg hp hLr hMr hf hft hg1 hg2 hU' l3
  go_enter Tryz.func123, Tryz.ntmps123
  go_wp2_with fail
  refine (hPd.out _).mono ?_
  rintro e w1 ⟨rfl, rfl⟩
  go_wp2_with fail
  refine hDv.out.mono ?_
  rintro e w1 ⟨rfl, rfl⟩
  go_wp2_with fail
  refine hGd.out.mono ?_
  rintro e w1 ⟨rfl, rfl⟩
  go_wp2_with fail
  refine (hPd.out _).mono ?_
  rintro e w1 ⟨rfl, rfl⟩
  go_wp2_with (at_builtin; refine wpList_append_own _ rfl _ _ 64 rfl w.heap.size 22 i0 (.int .u64 0) 1 8 Tryz.underlying64 hi hz0 hz1 hz2 rfl (by decide) _ 0 [] rfl (World.ownsRow_lit w #[] 0 (Nat.le_refl _) (by unfold maxLen; omega) rfl) ⟨bA, oA, none⟩ L.length cA (ints .u64 L) rfl HlA.out ?c1 (ints_one _) ?c3 ?c4 ?c5 ?_)
  case c1 =>
    intro j u hu
    exact ((Below.refl w.heap.size w).alloc (Nat.le_refl _) (.cells #[] 22)).cell (World.block_lt_of_cell? w _ (HcA.out j u hu)) |>.trans (HcA.out j u hu)
  case c3 => unfold maxLen; omega
  case c4 => omega
  case c5 => simp
  intro v1 w1 hown1 hg1 _
  have hB0 := (Below.refl w.heap.size w).alloc (Nat.le_refl _) (.cells #[] 22)
  have hB1 : Below w.heap.size w w1 := hB0.grown hg1 (by simp) (fun k hk => by simp [Value.ownBlock] at hk; omega)
  clear hg1 hB0
  go_wp2_with (at_builtin; refine wpList_append_zeros rfl _ _ 64 3 rfl w.heap.size 22 .i64 i0 (.int .u64 0) Tryz.underlying64 hU hi hz0 hz1 hz2 rfl rfl v1 L.length (ints .u64 L) rfl hown1 m1 rfl ?d3 hB1.size ?_)
  case d3 => omega
  intro v2 w2 hown2 hg2
  have hB2 : Below w.heap.size w w2 := hB1.grown hg2 hB1.size (fun k hk => (World.ownsRow.lt hown1 k hk).1)
  have hO2 : OwnU w2 w.heap.size v2 N (lst N (padz L.length (rz p L))) := by
    unfold OwnU
    rw [← HpA.out, ints_append, ← ints_repl, ← HmA.out]
    exact hown2
  have HO2 := Lib.hid hO2
  have hs2 := hB2.size
  clear hown1 hown2 hg2 hB1 hO2
  go_wp2_with (at_builtin; refine wpList_append_own _ rfl _ _ 64 rfl w2.heap.size 22 i0 (.int .u64 0) 1 8 Tryz.underlying64 hi hz0 hz1 hz2 rfl (by decide) _ 0 [] rfl (World.ownsRow_lit w2 #[] 0 (Nat.le_refl _) (by unfold maxLen; omega) rfl) ⟨bB, oB, none⟩ M.length cB (ints .u64 M) rfl HlB.out ?e1 (ints_one _) ?e3 ?e4 ?e5 ?_)
  case e1 =>
    intro j u hu
    have h1 : w2.cell? ((⟨bB, oB, none⟩ : Addr).add j) = some u := hB2.cell (World.block_lt_of_cell? w _ (HcB.out j u hu)) |>.trans (HcB.out j u hu)
    exact ((Below.refl w2.heap.size w2).alloc (Nat.le_refl _) (.cells #[] 22)).cell (World.block_lt_of_cell? w2 _ h1) |>.trans h1
  case e3 => unfold maxLen; omega
  case e4 => omega
  case e5 => simp
  intro v3 w3 hown3 hg3 _
  have hB3 : Below w2.heap.size w2 w3 := ((Below.refl w2.heap.size w2).alloc (Nat.le_refl _) (.cells #[] 22)).grown hg3 (by simp) (fun k hk => by simp [Value.ownBlock] at hk; omega)
  clear hg3
  go_wp2_with (at_builtin; refine wpList_append_zeros rfl _ _ 64 3 rfl w2.heap.size 22 .i64 i0 (.int .u64 0) Tryz.underlying64 hU hi hz0 hz1 hz2 rfl rfl v3 M.length (ints .u64 M) rfl hown3 m2 rfl ?f3 hB3.size ?_)
  case f3 => omega
  intro v4 w4 hown4 hg4
  have hB4 : Below w2.heap.size w2 w4 := hB3.grown hg4 hB3.size (fun k hk => (World.ownsRow.lt hown3 k hk).1)
  have hO4 : OwnU w4 w2.heap.size v4 N (lst N (padz M.length (rz p M))) := by
    unfold OwnU
    rw [← HpB.out, ints_append, ← ints_repl, ← HmB.out]
    exact hown4
  have hBw := hB2.trans (hB4.mono hs2)
  have HO4 := Lib.hid hO4
  have HO24 := Lib.hid (HO2.out.below hB4)
  clear hown3 hown4 hg4 hB3 hO4 HO2
  go_wp2_with fail
  refine (HU1.out w4 _ _ hBw hBw.size HO24.out).mono ?_
  rintro r w5 ⟨v5, rfl, hO5, hB5⟩
  have hBx := hBw.trans (hB5.mono hBw.size)
  have HO5 := Lib.hid hO5
  have HO45 := Lib.hid (HO4.out.below hB5)
  have hb45 : w2.heap.size ≤ w5.heap.size := by have := hB4.size; have := hB5.size; omega
  clear hO5 HO4 HO24 hB4 hBw hB5
  go_wp2_with fail
  refine (HU2.out w5 _ _ hBx hb45 HO45.out).mono ?_
  rintro r w6 ⟨v6, rfl, hO6, hB6⟩
  have hBy := hBx.trans (hB6.mono hBx.size)
  obtain ⟨A5, c5, rfl, hR5⟩ := (HO5.out.below hB6).rd
  obtain ⟨A6, c6, rfl, hR6⟩ := hO6.rd
  have HTn := Lib.hid (HTm.out w6 A5 A6 c5 c6 hBy hR5 hR6)
  have HBy := Lib.hid hBy
  clear hO6 HO5 HO45 hBx hB6 hBy hR5 hR6 HTm
  go_wp2_with fail
  refine HTn.out.mono ?_
  rintro r w7 ⟨v7, rfl, hO7, hB7⟩
  have hBz := HBy.out.trans (hB7.mono HBy.out.size)
  have hU3 := Lib.hid (HU3.out w7 _ _ hBz hB7.size hO7)
  have HBz := Lib.hid hBz
  clear hO7 hBz hB7
  go_wp2_with fail
  refine hU3.out.mono ?_
  rintro r w8 ⟨v8, rfl, hO8, hB8⟩
  have hBf := HBz.out.trans (hB8.mono HBz.out.size)
  have hcap : ∃ G8 c8, v8 = .slice (some ⟨G8, 0, none⟩) N c8 ∧ N ≤ c8 ∧ w7.heap.size ≤ G8 ∧ G8 < w8.heap.size := by
    rcases hO8.2 with ⟨_, h0⟩ | ⟨g', cap', cur', e, h1, h2, h3, _⟩
    · omega
    · exact ⟨g', cap', e, h3, h1, (World.ownsRow.lt hO8 g' (by rw [e]; rfl)).2⟩
  obtain ⟨G8, c8, rfl, hc8, hG8, hG8'⟩ := hcap
  have HC8 : Hid (∀ j, j < n → w8.cell? ⟨G8, j, none⟩ = some (.int .u64 ((lcv p L M j).val : Int))) := Lib.hid (fun j hj => by
    have h1 := (own_set hO8 j (by omega)).1
    rw [lst_get (by omega), HCv.out j hj] at h1
    exact h1)
  have hGw : w.heap.size ≤ G8 := by have := HBz.out.size; omega
  have HBf := Lib.hid hBf
  clear hO8 hB8 hBf HBz HCv
  have hnc : n ≤ c8 := by omega
  go_wp2
  go_ret2
  exact ⟨G8, rfl, hGw, hG8', HC8.out, HBf.out⟩
end Go.Proofs.YtemoginoanhjlaaGreat
