/- series: Divide, Power. -/
import Derived.Test.YthhkljfgkihfgaaGreatSerB
set_option linter.unusedVariables false
set_option linter.unusedSimpArgs false
set_option linter.unusedSectionVars false
set_option linter.unusedVariables false
set_option linter.unusedSimpArgs false
namespace Go.Proofs.YthhkljfgkihfgaaGreat
open Go.RowKit
open Alg
theorem lst_eqn {p : Nat} [NeZero p] {n : Nat} {A B : Nat → Fin p} (h : Eqn n A B) : lst n A = lst n B := lst_congr h
theorem gdiv_nil (A B : Option Addr) (c d m k : Nat) (n : Int) (w : World) : Calls Tryz.prog 61 #[.pointer none, .slice A m c, .slice B k d, .int .i64 n] w fun e w' => e = .returned (.tuple #[.slice none 0 0, .int .i64 2]) ∧ w = w' := by
  go_enter Tryz.func61, Tryz.ntmps61
  go_wp2_with fail
  refine (scheck_nil _ _).mono ?_
  rintro e w1 ⟨rfl, rfl⟩
  go_wp2
  go_ret2
  exact ⟨rfl, rfl⟩
/-- Which error, of what is to be divided. -/
def sfd (p n : Int) (L M : List Int) : Int := if sf1 p n L ≠ 0 then sf1 p n L else sfi p n M
theorem sfd_zero {p n : Int} {L M : List Int} (h : sfd p n L M = 0) : sf1 p n L = 0 ∧ sfi p n M = 0 := by
  unfold sfd at h
  split at h
  · rename_i h1; exact absurd h h1
  · rename_i h1; exact ⟨by simpa using h1, h⟩
theorem gdiv_no {p : Nat} {w : World} {v : Value} {g : Int} (h : Fd w w.heap.size v p g) (AA AB : Option Addr) (cA cB : Nat) (L M : List Int) (n : Int) (h0 : -9223372036854775808 ≤ n) (h1 : n ≤ 9223372036854775807)
    (hl : L.length ≤ 140737488351232) (hm : M.length ≤ 140737488351232) (hU : U64s L) (hU' : U64s M) (hA : RdI w w.heap.size .u64 AA L) (hB : RdI w w.heap.size .u64 AB M) (hf : sfd p n L M ≠ 0) :
    Calls Tryz.prog 61 #[v, .slice AA L.length cA, .slice AB M.length cB, .int .i64 n] w fun e w' => e = .returned (.tuple #[.slice none 0 0, .int .i64 (sfd p n L M)]) ∧ w = w' := by
  have hC := Lib.hid (scheck_fd h n h0 h1)
  have hG1 := Lib.hid (good_fd h AA cA w.heap.size L hl hU hA)
  have HV : Hid (sfd p n L M = if sf1 p n L ≠ 0 then sf1 p n L else sfi p n M) := Lib.hid rfl
  have HS : Hid (sf1 p n L = if schk p n ≠ 0 then schk p n else if goodB p L = false then 9 else 0) := Lib.hid rfl
  have HN := Lib.hid hf
  by_cases c1 : schk p n = 0
  · rw [c1] at hC
    by_cases c2 : goodB p L = false
    · have h3 : sf1 p n L = 9 := by rw [HS.out, if_neg (by simp [c1]), if_pos c2]
      have HV2 : Hid (sfd p n L M = 9) := Lib.hid (by rw [HV.out, h3]; simp)
      rw [c2] at hG1
      clear c1 c2 h3 h hU hU' hA hB hf
      go_enter Tryz.func61, Tryz.ntmps61
      go_wp2_with fail
      refine hC.out.mono ?_
      rintro e w1 ⟨rfl, rfl⟩
      go_wp2_with fail
      refine hG1.out.mono ?_
      rintro e w1 ⟨rfl, rfl⟩
      go_wp2
      go_ret2
      exact ⟨by rw [HV2.out]; first | rfl | simp, rfl⟩
    · have c2' : goodB p L = true := by simpa using c2
      have h3 : sf1 p n L = 0 := by rw [HS.out, if_neg (by simp [c1]), if_neg c2]
      have HV2 : Hid (sfd p n L M = sfi p n M) := Lib.hid (by rw [HV.out, if_neg (by simp [h3])])
      have hne : sfi p n M ≠ 0 := by rw [← HV2.out]; exact hf
      have hI := Lib.hid (ginv_no h AB cB M n h0 h1 hm hU' hB hne)
      obtain ⟨z, hz⟩ : ∃ z, z = sfi p n M := ⟨_, rfl⟩
      rw [← hz] at hI HV2 hne
      rw [c2'] at hG1
      have t : (z != 0) = true := by simp [hne]
      clear c1 c2 c2' h3 h hU hU' hA hB hf hz
      go_enter Tryz.func61, Tryz.ntmps61
      go_wp2_with fail
      refine hC.out.mono ?_
      rintro e w1 ⟨rfl, rfl⟩
      go_wp2_with fail
      refine hG1.out.mono ?_
      rintro e w1 ⟨rfl, rfl⟩
      go_wp2_with fail
      refine hI.out.mono ?_
      rintro e w1 ⟨rfl, rfl⟩
      go_wp2
      go_ret2
      exact ⟨by rw [HV2.out]; first | rfl | simp, rfl⟩
  · have HV2 : Hid (sfd p n L M = schk p n) := Lib.hid (by
      have h3 : sf1 p n L = schk p n := by rw [HS.out, if_pos c1]
      rw [HV.out, h3, if_pos c1])
    obtain ⟨z, hz⟩ : ∃ z, z = schk p n := ⟨_, rfl⟩
    rw [← hz] at hC HV2 c1
    have t : (z != 0) = true := by simp [c1]
    clear hz c1 h hU hU' hA hB hf
    go_enter Tryz.func61, Tryz.ntmps61
    go_wp2_with fail
    refine hC.out.mono ?_
    rintro e w1 ⟨rfl, rfl⟩
    go_wp2
    go_ret2
    exact ⟨by rw [HV2.out]; first | rfl | simp, rfl⟩
theorem gdiv_yes {p : Nat} [NeZero p] {w : World} {v : Value} {g : Int} (hp : Prime p) (hg : Ord (zt p g) (p - 1)) (g0 : 0 ≤ g) (g1 : g < p) (h : Fd w w.heap.size v p g) (AA AB : Option Addr) (cA cB : Nat) (L M : List Int) (n : Nat)
    (hl : L.length ≤ 140737488351232) (hm : M.length ≤ 140737488351232) (hU : U64s L) (hU' : U64s M) (hA : RdI w w.heap.size .u64 AA L) (hB : RdI w w.heap.size .u64 AB M) (hf : sfd p n L M = 0) :
    Calls Tryz.prog 61 #[v, .slice AA L.length cA, .slice AB M.length cB, .int .i64 n] w fun e w' => ∃ V U, e = .returned (.tuple #[V, .int .i64 0]) ∧ OwnU w' w.heap.size V n (lst n (cv (rz p L) U)) ∧ Eqn n (cv (rz p M) U) uno ∧ Below w.heap.size w w' := by
  obtain ⟨hf1, hf2⟩ := sfd_zero hf
  obtain ⟨hs, hgd⟩ := sf1_zero hf1
  obtain ⟨n1, n2, hft⟩ := schk_zero hs
  have HPM := h.pmx
  have hC := Lib.hid (scheck_fd h n (by omega) (by omega))
  rw [hs] at hC
  have hG1 := Lib.hid (good_fd h AA cA w.heap.size L hl hU hA)
  rw [hgd] at hG1
  have hI := Lib.hid (ginv_yes hp hg g0 g1 h AB cB M n hm hU' hB hf2)
  have HM : Hid (∀ wz (Y : Option Addr) (cY : Nat) (U : Nat → Fin p), Below w.heap.size w wz → RdI wz wz.heap.size .u64 Y (lst n U) →
      Calls Tryz.prog 106 #[v, .slice AA L.length cA, .slice Y n cY, .int .i64 n] wz fun r w' => ∃ V, r = .returned V ∧ OwnU w' wz.heap.size V n (lst n (cv (rz p L) U)) ∧ Below wz.heap.size wz w') := Lib.hid (fun wz Y cY U hz rY => by
    have h1 := smul_any hp hg g0 g1 ((h.below hz).mono hz.size) AA Y cA cY L (lst n U) n hl (by rw [lst_length]; omega) hU (lst_u64 HPM _ _) hgd (lst_good _ _) ((hA.below hz).mono hz.size) rY (by omega) (by omega) hft
    rw [lst_length, rz_pad, lst_eqn (cv_eqn (Eqn.refl n (rz p L)) (pad_eqn n U))] at h1
    exact h1)
  clear h hU hU' hA hB hf hf1 hf2 hs hgd hft hp hg n1 n2
  go_enter Tryz.func61, Tryz.ntmps61
  go_wp2_with fail
  refine hC.out.mono ?_
  rintro e w1 ⟨rfl, rfl⟩
  go_wp2_with fail
  refine hG1.out.mono ?_
  rintro e w1 ⟨rfl, rfl⟩
  go_wp2_with fail
  refine hI.out.mono ?_
  rintro e w1 ⟨V1, U, rfl, hO1, hE, hB1⟩
  obtain ⟨Y, cY, rfl, hR⟩ := hO1.rd
  have HC := Lib.hid (HM.out w1 Y cY U hB1 hR)
  have HE := Lib.hid hE
  have HB1 := Lib.hid hB1
  clear hO1 hE hB1 hR HM hI
  go_wp2_with fail
  refine HC.out.mono ?_
  rintro e w2 ⟨V2, rfl, hO2, hB2⟩
  have HO2 := Lib.hid (hO2.mono HB1.out.size)
  have HB2 := Lib.hid (HB1.out.trans (hB2.mono HB1.out.size))
  clear hO2 hB2 HC
  go_wp2
  go_ret2
  exact ⟨_, _, rfl, HO2.out, HE.out, HB2.out⟩
theorem gpow_nil (A : Option Addr) (c m : Nat) (k n : Int) (w : World) : Calls Tryz.prog 63 #[.pointer none, .slice A m c, .int .u64 k, .int .i64 n] w fun e w' => e = .returned (.tuple #[.slice none 0 0, .int .i64 2]) ∧ w = w' := by
  go_enter Tryz.func63, Tryz.ntmps63
  go_wp2_with fail
  refine (scheck_nil _ _).mono ?_
  rintro e w1 ⟨rfl, rfl⟩
  go_wp2
  go_ret2
  exact ⟨rfl, rfl⟩
theorem gpow_no {p : Nat} {w : World} {v : Value} {g : Int} (h : Fd w w.heap.size v p g) (A : Option Addr) (c : Nat) (L : List Int) (k n : Int) (h0 : -9223372036854775808 ≤ n) (h1 : n ≤ 9223372036854775807)
    (hl : L.length ≤ 140737488351232) (hU : U64s L) (hA : RdI w w.heap.size .u64 A L) (hf : sf1 p n L ≠ 0) :
    Calls Tryz.prog 63 #[v, .slice A L.length c, .int .u64 k, .int .i64 n] w fun e w' => e = .returned (.tuple #[.slice none 0 0, .int .i64 (sf1 p n L)]) ∧ w = w' := by
  have hC := Lib.hid (scheck_fd h n h0 h1)
  have hG1 := Lib.hid (good_fd h A c w.heap.size L hl hU hA)
  have HS : Hid (sf1 p n L = if schk p n ≠ 0 then schk p n else if goodB p L = false then 9 else 0) := Lib.hid rfl
  have HN := Lib.hid hf
  clear h hU hA hf
  by_cases c1 : schk p n = 0
  · rw [c1] at hC
    have c2 : goodB p L = false := by
      have h1 := HN.out
      rw [HS.out, if_neg (by simp [c1])] at h1
      split at h1
      · assumption
      · exact absurd rfl h1
    have HV2 : Hid (sf1 p n L = 9) := Lib.hid (by rw [HS.out, if_neg (by simp [c1]), if_pos c2])
    rw [c2] at hG1
    clear c1 c2
    go_enter Tryz.func63, Tryz.ntmps63
    go_wp2_with fail
    refine hC.out.mono ?_
    rintro e w1 ⟨rfl, rfl⟩
    go_wp2_with fail
    refine hG1.out.mono ?_
    rintro e w1 ⟨rfl, rfl⟩
    go_wp2
    go_ret2
    exact ⟨by rw [HV2.out]; first | rfl | simp, rfl⟩
  · have HV2 : Hid (sf1 p n L = schk p n) := Lib.hid (by rw [HS.out, if_pos c1])
    obtain ⟨z, hz⟩ : ∃ z, z = schk p n := ⟨_, rfl⟩
    rw [← hz] at hC HV2 c1
    have t : (z != 0) = true := by simp [c1]
    clear hz c1
    go_enter Tryz.func63, Tryz.ntmps63
    go_wp2_with fail
    refine hC.out.mono ?_
    rintro e w1 ⟨rfl, rfl⟩
    go_wp2
    go_ret2
    exact ⟨by rw [HV2.out]; first | rfl | simp, rfl⟩
theorem spw_dbl {p : Nat} [NeZero p] (X : Nat → Fin p) (h : Nat) : spw (cv X X) h = spw X (2 * h) := by
  have : cv X X = spw X 2 := by
    show cv X X = cv (spw X 1) X
    rw [spw_one]
  rw [this, spw_mul]
theorem pow_odd {p : Nat} [NeZero p] (O X : Nat → Fin p) (y : Int) (h : 0 < y) (h1 : y % 2 = 1) : cv (cv O X) (spw (cv X X) (y / 2).toNat) = cv O (spw X y.toNat) := by
  rw [spw_dbl, cv_assoc]
  congr 1
  rw [show y.toNat = 1 + 2 * (y / 2).toNat by omega, spw_add, spw_one]
theorem pow_even {p : Nat} [NeZero p] (O X : Nat → Fin p) (y : Int) (h : 0 < y) (h1 : ¬ y % 2 = 1) : cv O (spw (cv X X) (y / 2).toNat) = cv O (spw X y.toNat) := by
  rw [spw_dbl, show 2 * (y / 2).toNat = y.toNat by omega]
theorem cut_one {p : Nat} [NeZero p] (hp : 2 ≤ p) (n : Nat) : cutL [1] n = lst n (uno : Nat → Fin p) := full_congr fun i hi => by
  unfold uno
  rcases Nat.eq_zero_or_pos i with h | h
  · subst h
    rw [if_pos rfl]
    show (1 : Int) = _
    have := zt_val (p := p) 1
    rw [zt_one] at this
    rw [this, Int.emod_eq_of_lt (by omega) (by omega)]
  · rw [if_neg (by omega)]
    rw [List.getD_eq_getElem?_getD, List.getElem?_eq_none (by simp; omega)]
    simp
theorem cut_rz {p : Nat} [NeZero p] {L : List Int} (hgd : goodB p L = true) (hU : U64s L) (n : Nat) : cutL L n = lst n (rz p L) := full_congr fun i hi => by
  rcases Nat.lt_or_ge i L.length with h | h
  · have h1 := lst_get (f := rz p L) h
    rw [lst_rz hgd hU] at h1
    exact h1
  · unfold rz
    rw [List.getD_eq_getElem?_getD, List.getElem?_eq_none h]
    simp [zt_zero]
set_option maxHeartbeats 4000000 in
theorem gpow_yes {p : Nat} [NeZero p] {w : World} {v : Value} {g : Int} (hp : Prime p) (hg : Ord (zt p g) (p - 1)) (g0 : 0 ≤ g) (g1 : g < p) (h : Fd w w.heap.size v p g) (A : Option Addr) (c : Nat) (L : List Int) (k : Int) (n : Nat) (k0 : 0 ≤ k) (k1 : k ≤ 18446744073709551615)
    (hl : L.length ≤ 140737488351232) (hU : U64s L) (hA : RdI w w.heap.size .u64 A L) (hf : sf1 p n L = 0) :
    Calls Tryz.prog 63 #[v, .slice A L.length c, .int .u64 k, .int .i64 n] w fun e w' => ∃ V, e = .returned (.tuple #[V, .int .i64 0]) ∧ OwnU w' w.heap.size V n (lst n (spw (rz p L) k.toNat)) ∧ Below w.heap.size w w' := by
  obtain ⟨hs, hgd⟩ := sf1_zero hf
  obtain ⟨n1, n2, hft⟩ := schk_zero hs
  have hp3 := h.p3
  have HPM := h.pmx
  have hC := Lib.hid (scheck_fd h n (by omega) (by omega))
  rw [hs] at hC
  have hG1 := Lib.hid (good_fd h A c w.heap.size L hl hU hA)
  rw [hgd] at hG1
  have HM : Hid (∀ wz (Vo Vx : Value) (B B' : Nat) (P Q : Nat → Fin p), Below w.heap.size w wz → OwnU wz B Vo n (lst n P) → OwnU wz B' Vx n (lst n Q) →
      Calls Tryz.prog 106 #[v, Vo, Vx, .int .i64 n] wz fun r w' => ∃ V, r = .returned V ∧ OwnU w' wz.heap.size V n (lst n (cv P Q)) ∧ Below wz.heap.size wz w') := Lib.hid (fun wz Vo Vx B B' P Q hz hO hX => by
    obtain ⟨Y, cY, rfl, rY⟩ := hO.rd
    obtain ⟨Z, cZ, rfl, rZ⟩ := hX.rd
    have h1 := smul_any hp hg g0 g1 ((h.below hz).mono hz.size) Y Z cY cZ (lst n P) (lst n Q) n (by rw [lst_length]; omega) (by rw [lst_length]; omega) (lst_u64 HPM _ _) (lst_u64 HPM _ _) (lst_good _ _) (lst_good _ _) rY rZ (by omega) (by omega) hft
    rw [lst_length, lst_length, rz_pad, rz_pad, lst_eqn (cv_eqn (pad_eqn n P) (pad_eqn n Q))] at h1
    exact h1)
  have HC2 : Hid (∀ wz, Below w.heap.size w wz → Calls Tryz.prog 108 #[.slice A L.length c, .int .i64 n] wz fun r w' => ∃ V, r = .returned V ∧ OwnU w' wz.heap.size V n (lst n (rz p L)) ∧ Below wz.heap.size wz w') := Lib.hid (fun wz hz => by
    have h1 := scut_any A c L n wz hl (by omega) ((hA.below hz).mono hz.size)
    rw [cut_rz hgd hU] at h1; exact h1)
  have hO1 : OwnU (w.alloc (.cells (ints .u64 [1]).toArray 25)) w.heap.size (.slice (some ⟨w.heap.size, 0, none⟩) 1 1) 1 [1] := own_lit w w.heap.size 1 [1] rfl (Nat.le_refl _) (by omega)
  have hB1 : Below w.heap.size w (w.alloc (.cells (ints .u64 [1]).toArray 25)) := (Below.refl w.heap.size w).alloc (Nat.le_refl _) _
  have HC1 : Hid (Calls Tryz.prog 108 #[.slice (some ⟨w.heap.size, 0, none⟩) 1 1, .int .i64 n] (w.alloc (.cells #[.int .u64 1] 25)) fun r w' => ∃ V, r = .returned V ∧ OwnU w' w.heap.size V n (lst n (uno : Nat → Fin p)) ∧ Below w.heap.size w w') := Lib.hid (by
    obtain ⟨A', c', hV, hR⟩ := hO1.rd
    cases hV
    have h1 := scut_any (some ⟨w.heap.size, 0, none⟩) 1 [1] n (w.alloc (.cells (ints .u64 [1]).toArray 25)) (by decide) (by omega) hR
    rw [cut_one (p := p) (by omega)] at h1
    exact h1.mono fun e w' ⟨V, he, hO, hB⟩ => ⟨V, he, hO.mono hB1.size, hB1.trans (hB.mono hB1.size)⟩)
  obtain ⟨X0, hX0⟩ : ∃ X0, X0 = rz p L := ⟨_, rfl⟩
  rw [← hX0] at HC2 ⊢
  clear h hU hA hf hs hgd hft hp hg n1 n2 hO1 hB1 hX0 hp3
  go_enter Tryz.func63, Tryz.ntmps63
  go_wp2_with fail
  refine hC.out.mono ?_
  rintro e w1 ⟨rfl, rfl⟩
  go_wp2_with fail
  refine hG1.out.mono ?_
  rintro e w1 ⟨rfl, rfl⟩
  go_wp2_with fail
  refine HC1.out.mono ?_
  rintro e w1 ⟨V1, rfl, hO1, hB1⟩
  have HO1 := Lib.hid hO1
  have HB1 := Lib.hid hB1
  clear hO1 hB1
  go_wp2_with fail
  refine (HC2.out w1 HB1.out).mono ?_
  rintro e w2 ⟨V2, rfl, hO2, hB2⟩
  have HO2 := Lib.hid (hO2.mono HB1.out.size)
  have HO1 := Lib.hid (HO1.out.below hB2)
  have HB2 := Lib.hid (HB1.out.trans (hB2.mono HB1.out.size))
  clear hO2 hB2 HB1 HC1 HC2
  go_wp2
  go_loopw [2, 11, 12] (fun E O X wr => ∃ (y : Int) (P Q : Nat → Fin p) (Vo Vx : Value), Vo = O ∧ Vx = X ∧ E = .int .u64 y ∧ 0 ≤ y ∧ y ≤ 18446744073709551615 ∧ Hid (OwnU wr w.heap.size Vo n (lst n P)) ∧ Hid (OwnU wr w.heap.size Vx n (lst n Q)) ∧ Hid (cv P (spw Q y.toNat) = spw X0 k.toNat) ∧ Hid (Below w.heap.size w wr)) (fun E _ _ _ => (intOf E).toNat)
  case atStart => exact ⟨k, _, _, _, _, rfl, rfl, rfl, k0, k1, HO1, HO2, Lib.hid (by rw [uno_cv]), HB2⟩
  case round =>
    clear HO1 HO2 HB2
    obtain ⟨y, P, Q, Vo, Vx, rfl, rfl, rfl, y0, y1, hO, hX, hH, hBr⟩ := hrel
    by_cases hlt : 0 < y
    · have ea := and_one y y0 y1
      by_cases hodd : y % 2 = 1
      · have ho : (bits .and .u64 y 1 == 1) = true := by rw [ea, hodd]; rfl
        have HH := Lib.hid ((pow_odd P Q y hlt hodd).trans hH.out)
        clear ea hodd hH
        go_wp2_with fail
        refine (HM.out wr Vo Vx _ _ P Q hBr.out hO.out hX.out).mono ?_
        rintro e w3 ⟨V3, rfl, hO3, hB3⟩
        have HO3 := Lib.hid (hO3.mono hBr.out.size)
        have HB3 := Lib.hid (hBr.out.trans (hB3.mono hBr.out.size))
        have HX3 := Lib.hid (hX.out.below hB3)
        clear hO3 hB3 hO hX hBr
        go_wp2_with fail
        refine (HM.out w3 Vx Vx _ _ Q Q HB3.out HX3.out HX3.out).mono ?_
        rintro e w4 ⟨V4, rfl, hO4, hB4⟩
        have HX4 := Lib.hid (hO4.mono HB3.out.size)
        have HB4 := Lib.hid (HB3.out.trans (hB4.mono HB3.out.size))
        have HO4 := Lib.hid (HO3.out.below hB4)
        clear hO4 hB4 HO3 HX3 HB3
        go_wp2
        go_roundw
        case rel => exact ⟨y / 2, _, _, _, _, rfl, rfl, rfl, by omega, by omega, HO4, HX4, HH, HB4⟩
        case measure => simp [intOf]; omega
      · have ho : (bits .and .u64 y 1 == 1) = false := by rw [ea]; exact beq_eq_false_iff_ne.2 hodd
        have HH := Lib.hid ((pow_even P Q y hlt hodd).trans hH.out)
        clear ea hodd hH
        go_wp2_with fail
        refine (HM.out wr Vx Vx _ _ Q Q hBr.out hX.out hX.out).mono ?_
        rintro e w4 ⟨V4, rfl, hO4, hB4⟩
        have HX4 := Lib.hid (hO4.mono hBr.out.size)
        have HB4 := Lib.hid (hBr.out.trans (hB4.mono hBr.out.size))
        have HO4 := Lib.hid (hO.out.below hB4)
        clear hO4 hB4 hO hX hBr
        go_wp2
        go_roundw
        case rel => exact ⟨y / 2, _, _, _, _, rfl, rfl, rfl, by omega, by omega, HO4, HX4, HH, HB4⟩
        case measure => simp [intOf]; omega
    · obtain rfl : y = 0 := by omega
      have hO1 := hO.out
      have h1 : P = spw X0 k.toNat := by
        have := hH.out
        rw [show (0 : Int).toNat = 0 by decide, show spw Q 0 = uno by rfl, cv_uno] at this
        exact this
      rw [h1] at hO1
      have HO1 := Lib.hid hO1
      clear hO1 h1 hO
      go_wp2
      go_ret2
      exact ⟨_, rfl, HO1.out, hBr.out⟩
end Go.Proofs.YthhkljfgkihfgaaGreat
