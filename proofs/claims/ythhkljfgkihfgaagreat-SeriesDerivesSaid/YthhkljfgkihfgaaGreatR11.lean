/- The document's transforms: layers 6 (Root, Inv), 10 (Root, Table), 11 (Sum, Run). -/
import Derived.Test.YthhkljfgkihfgaaGreatTwid
import Derived.Test.YthhkljfgkihfgaaGreatWBitsBRevRef02
set_option linter.unusedVariables false
set_option linter.unusedSimpArgs false
set_option linter.unusedSectionVars false
namespace Go.Proofs.YthhkljfgkihfgaaGreat
open Go.RowKit

theorem r2powZ_any (a e m : Int) (w : World) (he0 : 0 ≤ e) (he : e ≤ 18446744073709551615) (ha0 : 0 ≤ a) (ha : a ≤ 18446744073709551615) (hm0 : 0 < m) (hm : m ≤ 18446744073709551615) :
    Calls Tryz.prog 109 #[.int .u64 a, .int .u64 e, .int .u64 m] w fun r w' => r = .returned (.int .u64 (a ^ e.toNat % m)) ∧ ∃ n, w' = w.drewN n := by
  have h := r2pow_any (e.toNat + 1) e.toNat a m w (by omega) (by omega) ha0 ha hm0 hm
  rw [Int.toNat_of_nonneg he0] at h
  exact h
theorem r6inv_any (a m : Int) (w : World) (ha0 : 0 ≤ a) (ha : a ≤ 18446744073709551615) (hm0 : 2 ≤ m) (hm : m ≤ 18446744073709551615) :
    Calls Tryz.prog 85 #[.int .u64 a, .int .u64 m] w fun r w' => r = .returned (.int .u64 (a ^ (m - 2).toNat % m)) ∧ ∃ n, w' = w.drewN n := by
  go_enter Tryz.func85, Tryz.ntmps85
  go_wp2_with fail
  refine (r2powZ_any a (m - 2) m _ (by omega) (by omega) ha0 ha (by omega) hm).mono ?_
  rintro r w1 ⟨rfl, n1, rfl⟩
  go_wp2
  go_ret
  exact ⟨rfl, _, rfl⟩
theorem r6root_any (p g n : Int) (w : World) (p1 : 3 ≤ p) (p2 : p < 9223372036854775808) (g0 : 0 ≤ g) (g1 : g < p) (n1 : 1 ≤ n) (n2 : n ≤ 9223372036854775807) (hd : (p - 1) % n = 0) :
    Calls Tryz.prog 123 #[.int .u64 p, .int .u64 g, .int .i64 n] w fun r w' => r = .returned (.int .u64 (g ^ ((p - 1) / n).toNat % p)) ∧ ∃ k, w' = w.drewN k := by
  have t1 : (n == 0) = false := beq_eq_false_iff_ne.2 (by omega)
  have t2 : ((p - 1) % n != 0) = false := by simp [hd]
  have q0 : 0 ≤ (p - 1) / n := Int.ediv_nonneg (by omega) (by omega)
  have q1 : (p - 1) / n ≤ p - 1 := Int.ediv_le_self _ (by omega)
  clear hd
  go_enter Tryz.func123, Tryz.ntmps123
  go_wp2_with fail
  refine (r2powZ_any g ((p - 1) / n) p _ q0 (by omega) g0 (by omega) (by omega) (by omega)).mono ?_
  rintro r w1 ⟨rfl, k, rfl⟩
  go_wp2
  go_ret
  exact ⟨rfl, _, rfl⟩

/-- The document's root. -/
def rootR (p g n : Int) (inv : Bool) : Int := if inv then (g ^ ((p - 1) / n).toNat % p) ^ (n - 1).toNat % p else g ^ ((p - 1) / n).toNat % p
theorem rootR_range {p g n : Int} {inv : Bool} (hp : 1 ≤ p) : 0 ≤ rootR p g n inv ∧ rootR p g n inv < p := by
  unfold rootR
  split <;> exact ⟨Int.emod_nonneg _ (by omega), Int.emod_lt_of_pos _ (by omega)⟩
theorem r10root_yes (p g n : Int) (inv : Bool) (w : World) (p1 : 3 ≤ p) (p2 : p < 9223372036854775808) (g0 : 0 ≤ g) (g1 : g < p) (hn : chk p n 4096 = 0) :
    Calls Tryz.prog 82 #[.int .u64 p, .int .u64 g, .int .i64 n, .bool inv] w fun r w' => r = .returned (.tuple #[.int .u64 (rootR p g n inv), .int .i64 0]) ∧ ∃ k, w' = w.drewN k := by
  obtain ⟨c1, c2, c3⟩ := chk_zero hn
  have t1 : (n == 0) = false := beq_eq_false_iff_ne.2 (by omega)
  have t2 : ((p - 1) % n != 0) = false := by simp [c3]
  have t3 : decide (4096 < n) = false := by simp; omega
  have hR := Lib.hid (fun w => r6root_any p g n w p1 p2 g0 g1 c1 (by omega) c3)
  have z0 : 0 ≤ g ^ ((p - 1) / n).toNat % p := Int.emod_nonneg _ (by omega)
  have z1 : g ^ ((p - 1) / n).toNat % p < p := Int.emod_lt_of_pos _ (by omega)
  have HN : Hid (rootR p g n false = g ^ ((p - 1) / n).toNat % p) := Lib.hid rfl
  have HY : Hid (rootR p g n true = (g ^ ((p - 1) / n).toNat % p) ^ (n - 1).toNat % p) := Lib.hid rfl
  obtain ⟨z, hz⟩ : ∃ z, z = g ^ ((p - 1) / n).toNat % p := ⟨_, rfl⟩
  rw [← hz] at hR HN HY z0 z1
  clear hz c3 hn
  cases inv with
  | false =>
    go_enter Tryz.func82, Tryz.ntmps82
    go_wp2_with fail
    refine (hR.out _).mono ?_
    rintro r w1 ⟨rfl, k, rfl⟩
    go_wp2
    go_ret2
    exact ⟨by rw [HN.out]; first | rfl | simp, _, rfl⟩
  | true =>
    go_enter Tryz.func82, Tryz.ntmps82
    go_wp2_with fail
    refine (hR.out _).mono ?_
    rintro r w1 ⟨rfl, k, rfl⟩
    go_wp2_with fail
    refine (r2powZ_any z (n - 1) p _ (by omega) (by omega) z0 (by omega) (by omega) (by omega)).mono ?_
    rintro r w1 ⟨rfl, k2, rfl⟩
    go_wp2
    go_ret2
    exact ⟨by rw [HY.out]; first | rfl | simp, _, rfl⟩

theorem ints_snocU (xs : List Int) (i : Nat) (h : i < xs.length) : ints .u64 (xs.take (i + 1)) = ints .u64 (xs.take i) ++ [.int .u64 (xs.getD i 0)] := by
  rw [List.take_succ_eq_append_getElem h, List.getD_eq_getElem?_getD, List.getElem?_eq_getElem h, ints, List.map_append]; rfl

set_option maxHeartbeats 1000000 in
theorem r10table_any (p W : Int) (n : Nat) (w : World) (p1 : 3 ≤ p) (p2 : p < 9223372036854775808) (w0 : 0 ≤ W) (w1 : W < p) (hn : n ≤ 4096) :
    Calls Tryz.prog 83 #[.int .u64 p, .int .u64 W, .int .i64 n] w fun r w' => ∃ V, r = .returned V ∧ OwnU w' w.heap.size V n (full n fun i => W ^ i % p) ∧ Below w.heap.size w w' := by
  obtain ⟨i0, hi, hz0, hz1, hz2⟩ := info_parts info_u64
  have ex : Hid ((1 : Int) = W ^ 0 % p) := Lib.hid (by rw [Int.pow_zero, Int.emod_eq_of_lt (by omega) (by omega)])
  have hl : (full n fun i => W ^ i % p).length = n := full_length _ _
  have HK : Hid (∀ k, k < n → (full n fun i => W ^ i % p).getD k 0 = W ^ k % p) := Lib.hid (fun k hk => full_get hk)
  obtain ⟨L, hL⟩ : ∃ L, L = full n fun i => W ^ i % p := ⟨_, rfl⟩
  rw [← hL] at hl HK ⊢
  clear hL
  go_enter Tryz.func83, Tryz.ntmps83
  go_wp2
  go_loopw [7, 8, 9] (fun O X I wr => ∃ (k : Nat) (x : Int) (Ov : Value), Ov = O ∧ X = .int .u64 x ∧ I = .int .i64 k ∧ k ≤ n ∧ 0 ≤ x ∧ x < p ∧ Hid (x = W ^ k % p) ∧ OwnU wr w.heap.size Ov k (L.take k) ∧ Below w.heap.size w wr) (fun _ _ I _ => n - (intOf I).toNat)
  case atStart => exact ⟨0, 1, _, rfl, rfl, rfl, by omega, by omega, by omega, ex, World.ownsRow_nil _ _ _ _, Below.refl _ _⟩
  case round =>
    obtain ⟨k, x, O, rfl, rfl, rfl, hk, x0, x1, hx, hown, hB⟩ := hrel
    have hws := hB.size
    by_cases hlt : k < n
    · have y0 := Int.emod_nonneg (x * W) (show p ≠ 0 by omega)
      have y1 := Int.emod_lt_of_pos (x * W) (show 0 < p by omega)
      have hnx : Hid (x * W % p = W ^ (k + 1) % p) := Lib.hid (by rw [hx.out, modl, ← Int.pow_succ])
      have hxl : Hid (x = L.getD k 0) := Lib.hid (by rw [HK.out _ hlt]; exact hx.out)
      have hM := Lib.hid (fun w => r2mul_any x W p w x0 (by omega) w0 (by omega) (by omega) (by omega))
      obtain ⟨y, hy⟩ : ∃ y, y = x * W % p := ⟨_, rfl⟩
      rw [← hy] at y0 y1 hnx hM
      clear hy
      go_wp2_with (at_builtin; refine wpList_append_own _ rfl _ _ 29 rfl w.heap.size 25 i0 (.int .u64 0) 1 8 Tryz.underlying29 hi hz0 hz1 hz2 rfl (by decide) _ _ _ rfl (World.ownsRow.alloc hown _) ⟨wr.heap.size, 0, none⟩ 1 1 [.int .u64 x] rfl rfl ?c1 ?c2 ?c3 ?c4 ?c5 ?_)
      case c1 =>
        intro j u hj
        match j, hj with
        | 0, hj => simp at hj; subst hj; simp [Addr.add]
      case c2 => intro u hu; simp at hu; subst hu; rfl
      case c3 => unfold maxLen; omega
      case c4 => omega
      case c5 => simp; omega
      intro v' w6 hown' hgrow _
      have hO : OwnU w6 w.heap.size v' (k + 1) (L.take (k + 1)) := by
        unfold OwnU
        rw [ints_snocU _ _ (by omega), ← hxl.out]
        exact hown'
      have hB' := (hB.alloc hws (.cells #[.int .u64 x] 25)).grown hgrow (by simp; omega) (fun k hk => (World.ownsRow.lt hown k hk).1)
      have HO := Lib.hid hO
      clear hgrow hown hB hown' hO
      go_wp2_with fail
      refine (hM.out _).mono ?_
      rintro r w7 ⟨rfl, n1, rfl⟩
      go_wp2
      go_roundw
      case rel => exact ⟨k + 1, y, _, rfl, rfl, by go_num, by omega, y0, y1, hnx, HO.out.drewN _, below_drewN hB' _⟩
      case measure => simp [intOf]; omega
    · obtain rfl : k = n := by omega
      have he : L.take k = L := List.take_of_length_le (by omega)
      rw [he] at hown
      have HO := Lib.hid hown
      clear he hown
      go_wp2
      go_ret
      exact ⟨_, rfl, HO.out, hB⟩

/-- The document's sum: of the first k. -/
def sumR (p : Int) (T L : List Int) (i : Nat) : Nat → Int
  | 0 => 0
  | k + 1 => (sumR p T L i k + L.getD k 0 * T.getD (i * k % L.length) 0 % p) % p
theorem sumR_range {p : Int} (hp : 1 ≤ p) (T L : List Int) (i k : Nat) : 0 ≤ sumR p T L i k ∧ sumR p T L i k < p := by
  cases k with
  | zero => exact ⟨Int.le_refl _, by unfold sumR; omega⟩
  | succ k => exact ⟨Int.emod_nonneg _ (by omega), Int.emod_lt_of_pos _ (by omega)⟩
set_option maxHeartbeats 1000000 in
theorem r11sum_any (p : Int) (T L : List Int) (i : Nat) (A B : Option Addr) (c d n : Nat) (w : World) (p1 : 3 ≤ p) (p2 : p < 9223372036854775808) (hT : T.length = L.length) (hl : L.length ≤ 4096) (hi : i < L.length)
    (hUT : U64s T) (hUL : U64s L) (hA : RdI w n .u64 A T) (hB : RdI w n .u64 B L) :
    Calls Tryz.prog 84 #[.int .u64 p, .slice A T.length c, .slice B L.length d, .int .i64 i] w fun r w' => r = .returned (.int .u64 (sumR p T L i L.length)) ∧ ∃ k, w' = w.drewN k := by
  obtain ⟨b1, o1, rfl, hb1, hc1⟩ := hA (by omega)
  obtain ⟨b2, o2, rfl, hb2, hc2⟩ := hB (by omega)
  have HUT := Lib.hid hUT
  have HUL := Lib.hid hUL
  have HC1 := Lib.hid hc1
  have HC2 := Lib.hid hc2
  have HT := Lib.hid hT
  rw [hT]
  have h0 : Hid ((0 : Int) = sumR p T L i 0) := Lib.hid rfl
  clear hUT hUL hc1 hc2 hA hB hT
  go_enter Tryz.func84, Tryz.ntmps84
  go_wp2
  go_loopw [9, 10, 11, 14] (fun S _ _ I wr => ∃ (k : Nat) (s : Int) (m : Nat), S = .int .u64 s ∧ I = .int .i64 k ∧ k ≤ L.length ∧ 0 ≤ s ∧ s < p ∧ Hid (s = sumR p T L i k) ∧ wr = w.drewN m) (fun _ _ _ I _ => L.length - (intOf I).toNat)
  case atStart => exact ⟨0, 0, 0, rfl, rfl, by omega, by omega, by omega, h0, rfl⟩
  case round =>
    obtain ⟨k, s, m, rfl, rfl, hk, s0, s1, hs, rfl⟩ := hrel
    by_cases hlt : k < L.length
    · have d2 : (w.drewN m).cell? ⟨b2, o2 + k, none⟩ = some (.int .u64 (L.getD k 0)) := HC2.out k hlt
      have hm : i * k % L.length < L.length := Nat.mod_lt _ (by omega)
      have d1 : (w.drewN m).cell? ⟨b1, o1 + (i * k % L.length), none⟩ = some (.int .u64 (T.getD (i * k % L.length) 0)) := HC1.out _ (by rw [HT.out]; exact hm)
      have hux := HUL.out.at hlt
      have hut := HUT.out.at (k := i * k % L.length) (by rw [HT.out]; exact hm)
      have hst : Hid (sumR p T L i (k + 1) = (sumR p T L i k + L.getD k 0 * T.getD (i * k % L.length) 0 % p) % p) := Lib.hid rfl
      rw [← hs.out] at hst
      have eix : ((i : Int) * (k : Int)) % (L.length : Int) = ((i * k % L.length : Nat) : Int) := by rw [Int.natCast_emod, Int.natCast_mul]
      have mb0 : 0 ≤ (i : Int) * (k : Int) := Int.mul_nonneg (by omega) (by omega)
      have mb1 : (i : Int) * (k : Int) ≤ 4096 * 4096 := Int.mul_le_mul (by omega) (by omega) (by omega) (by omega)
      have tl : ((L.length : Int) == 0) = false := beq_eq_false_iff_ne.2 (by omega)
      obtain ⟨x, hx⟩ : ∃ x, x = L.getD k 0 := ⟨_, rfl⟩
      obtain ⟨j, hj⟩ : ∃ j, j = i * k % L.length := ⟨_, rfl⟩
      rw [← hj] at d1 hut hst eix hm
      obtain ⟨y, hy⟩ : ∃ y, y = T.getD j 0 := ⟨_, rfl⟩
      rw [← hx] at d2 hux hst
      rw [← hy] at d1 hut hst
      have hM := Lib.hid (fun w => r2mul_any x y p w hux.1 hux.2 hut.1 hut.2 (by omega) (by omega))
      have z0 := Int.emod_nonneg (x * y) (show p ≠ 0 by omega)
      have z1 := Int.emod_lt_of_pos (x * y) (show 0 < p by omega)
      obtain ⟨z, hz⟩ : ∃ z, z = x * y % p := ⟨_, rfl⟩
      rw [← hz] at hM hst z0 z1
      have hAd := Lib.hid (fun w => r2add_any s z p w s0 (by omega) z0 (by omega) (by omega) (by omega))
      have u0 := Int.emod_nonneg (s + z) (show p ≠ 0 by omega)
      have u1 := Int.emod_lt_of_pos (s + z) (show 0 < p by omega)
      obtain ⟨u, hu⟩ : ∃ u, u = (s + z) % p := ⟨_, rfl⟩
      rw [← hu] at hAd hst u0 u1
      clear hx hj hy hz hu
      go_wp2_with fail
      refine (hM.out _).mono ?_
      rintro r w1 ⟨rfl, k1, rfl⟩
      go_wp2_with fail
      refine (hAd.out _).mono ?_
      rintro r w1 ⟨rfl, k2, rfl⟩
      go_wp2
      go_roundw
      case rel => exact ⟨k + 1, u, _, rfl, by go_num, by omega, u0, u1, Lib.hid hst.out.symm, rfl⟩
      case measure => simp [intOf]; omega
    · obtain rfl : k = L.length := by omega
      go_wp2
      go_ret
      exact ⟨ret_int hs.out, _, rfl⟩

/-- The document's transform. -/
def runR (p g : Int) (L : List Int) (inv : Bool) : List Int :=
  full L.length fun i =>
    let s := sumR p (full L.length fun j => rootR p g L.length inv ^ j % p) L i L.length
    if inv then s * ((L.length : Int) ^ (p - 2).toNat % p) % p else s
theorem runR_length (p g : Int) (L : List Int) (inv : Bool) : (runR p g L inv).length = L.length := full_length _ _
theorem full_u64 {n : Nat} {f : Nat → Int} (h : ∀ i, i < n → 0 ≤ f i ∧ f i ≤ 18446744073709551615) : U64s (full n f) := fun x hx => by
  obtain ⟨i, hi, rfl⟩ := List.mem_map.1 hx
  exact h i (List.mem_range.1 hi)
set_option maxHeartbeats 2000000 in
theorem r11run_yes (p g : Int) (L : List Int) (inv : Bool) (B : Option Addr) (d : Nat) (w : World) (p1 : 3 ≤ p) (p2 : p < 9223372036854775808) (g0 : 0 ≤ g) (g1 : g < p) (hn : chk p L.length 4096 = 0)
    (hUL : U64s L) (hB : RdI w w.heap.size .u64 B L) :
    Calls Tryz.prog 30 #[.int .u64 p, .int .u64 g, .slice B L.length d, .bool inv] w fun r w' => ∃ V, r = .returned V ∧ OwnU w' w.heap.size V L.length (runR p g L inv) ∧ Below w.heap.size w w' := by
  obtain ⟨i0, hi, hz0, hz1, hz2⟩ := info_parts info_u64
  obtain ⟨c1, c2, c3⟩ := chk_zero hn
  have HN := Lib.hid hn
  have HUL := Lib.hid hUL
  have hWr := rootR_range (p := p) (g := g) (n := L.length) (inv := inv) (by omega)
  have hRr := runR_length p g L inv
  have HRt := Lib.hid (fun w => r10root_yes p g L.length inv w p1 p2 g0 g1 hn)
  have HK : Hid (∀ k, k < L.length → (runR p g L inv).getD k 0 = if inv then sumR p (full L.length fun j => rootR p g L.length inv ^ j % p) L k L.length * ((L.length : Int) ^ (p - 2).toNat % p) % p else sumR p (full L.length fun j => rootR p g L.length inv ^ j % p) L k L.length) := Lib.hid (fun k hk => full_get hk)
  obtain ⟨R, hR⟩ : ∃ R, R = runR p g L inv := ⟨_, rfl⟩
  rw [← hR] at hRr HK ⊢
  obtain ⟨W, hW⟩ : ∃ W, W = rootR p g L.length inv := ⟨_, rfl⟩
  rw [← hW] at hWr HRt HK
  have hTl : (full L.length fun j => W ^ j % p).length = L.length := full_length _ _
  have hTu : U64s (full L.length fun j => W ^ j % p) := full_u64 fun i _ => by
    have := Int.emod_nonneg (W ^ i) (show p ≠ 0 by omega)
    have := Int.emod_lt_of_pos (W ^ i) (show 0 < p by omega)
    omega
  clear hR hW c3 hn hUL
  go_enter Tryz.func30, Tryz.ntmps30
  go_wp2_with fail
  refine (HRt.out _).mono ?_
  rintro r w1 ⟨rfl, n1, hw1⟩
  have hB1 : Below w.heap.size w w1 := by rw [hw1]; exact below_drewN (Below.refl _ _) _
  clear hw1
  go_wp2_with fail
  refine (r10table_any p W L.length _ p1 p2 hWr.1 hWr.2 (by omega)).mono ?_
  rintro r w2 ⟨V, rfl, hown, hB2⟩
  have hBt := hB1.trans (hB2.mono hB1.size)
  obtain ⟨A, c, rfl, hA⟩ := hown.rd
  obtain ⟨T, hT⟩ : ∃ T, T = full L.length fun j => W ^ j % p := ⟨_, rfl⟩
  rw [← hT] at hA hTl hTu HK
  have HA := Lib.hid hA
  have HTU := Lib.hid hTu
  have HTL := Lib.hid hTl
  have hs2 := hBt.size
  clear hown hB1 hB2 hA hTu hTl hT
  go_wp2
  go_loopw [12, 13, 14, 31] (fun O _ _ I wr => ∃ (k : Nat) (Ov : Value), Ov = O ∧ I = .int .i64 k ∧ k ≤ L.length ∧ OwnU wr w2.heap.size Ov k (R.take k) ∧ Below w2.heap.size w2 wr) (fun _ _ _ I _ => L.length - (intOf I).toNat)
  case atStart => exact ⟨0, _, rfl, rfl, by omega, World.ownsRow_nil _ _ _ _, Below.refl _ _⟩
  case round =>
    obtain ⟨k, O, rfl, rfl, hk, hown, hBr⟩ := hrel
    have hws := hBr.size
    by_cases hlt : k < L.length
    · have hS := Lib.hid (r11sum_any p T L k A B c d wr.heap.size wr p1 p2 HTL.out (by omega) hlt HTU.out HUL.out ((HA.out.below hBr).mono hws) (((hB.below hBt).mono hs2).below hBr |>.mono hws))
      rw [HTL.out] at hS
      have hKk := HK.out k hlt
      have sr := sumR_range (show 1 ≤ p by omega) T L k L.length
      obtain ⟨s, hs⟩ : ∃ s, s = sumR p T L k L.length := ⟨_, rfl⟩
      rw [← hs] at hS hKk sr
      have HO := Lib.hid hown
      clear hs hown
      obtain ⟨x, w3, hgo⟩ : ∃ x : Int, ∃ _w3 : World, x = R.getD k 0 := ⟨_, wr, rfl⟩
      have HX := Lib.hid hgo
      rw [← hgo] at hKk
      clear hgo
      have hxr : 0 ≤ x ∧ x < p := by
        rw [hKk]; split
        · exact ⟨Int.emod_nonneg _ (by omega), Int.emod_lt_of_pos _ (by omega)⟩
        · exact sr
      have app : ∀ (w5 : World) (hB5 : Below w2.heap.size w2 w5) (hO5 : OwnU w5 w2.heap.size O k (R.take k)), OwnU w5 w2.heap.size O k (R.take k) := fun _ _ h => h
      clear app
      cases inv with
      | false =>
        obtain rfl : x = s := by simpa using hKk
        clear hKk
        go_wp2_with fail
        refine hS.out.mono ?_
        rintro r w4 ⟨rfl, n4, hw4⟩
        have hB4 : Below w2.heap.size w2 w4 := by rw [hw4]; exact below_drewN hBr _
        have hO4 : OwnU w4 w2.heap.size O k (R.take k) := by rw [hw4]; exact HO.out.drewN _
        have hs4 := hB4.size
        clear hw4 hBr hws
        go_wp2_with (at_builtin; refine wpList_append_own _ rfl _ _ 29 rfl w2.heap.size 25 i0 (.int .u64 0) 1 8 Tryz.underlying29 hi hz0 hz1 hz2 rfl (by decide) _ _ _ rfl (World.ownsRow.alloc hO4 _) ⟨w4.heap.size, 0, none⟩ 1 1 [.int .u64 x] rfl rfl ?c1 ?c2 ?c3 ?c4 ?c5 ?_)
        case c1 =>
          intro j u hj
          match j, hj with
          | 0, hj => simp at hj; subst hj; simp [Addr.add]
        case c2 => intro u hu; simp at hu; subst hu; rfl
        case c3 => unfold maxLen; omega
        case c4 => omega
        case c5 => simp; omega
        intro v' w6 hown' hgrow _
        have hO : OwnU w6 w2.heap.size v' (k + 1) (R.take (k + 1)) := by
          unfold OwnU
          rw [ints_snocU _ _ (by omega), ← HX.out]
          exact hown'
        have hB' := (hB4.alloc hs4 (.cells #[.int .u64 x] 25)).grown hgrow (by simp; omega) (fun k hk => (World.ownsRow.lt hO4 k hk).1)
        have HO' := Lib.hid hO
        clear hgrow hO4 hB4 hown' hO
        go_wp2
        go_roundw
        case rel => exact ⟨k + 1, _, rfl, by go_num, by omega, HO'.out, hB'⟩
        case measure => simp [intOf]; omega
      | true =>
        have HI := Lib.hid (fun w => r6inv_any L.length p w (by omega) (by omega) (by omega) (by omega))
        obtain ⟨iv, hiv⟩ : ∃ iv, iv = (L.length : Int) ^ (p - 2).toNat % p := ⟨_, rfl⟩
        have v0 : 0 ≤ iv := by rw [hiv]; exact Int.emod_nonneg _ (by omega)
        have v1 : iv < p := by rw [hiv]; exact Int.emod_lt_of_pos _ (by omega)
        rw [← hiv] at HI hKk
        have hM := Lib.hid (fun w => r2mul_any s iv p w sr.1 (by omega) v0 (by omega) (by omega) (by omega))
        have hx2 : s * iv % p = x := by simpa using hKk.symm
        rw [hx2] at hM
        clear hiv hKk hx2
        go_wp2_with fail
        refine hS.out.mono ?_
        rintro r w4 ⟨rfl, n4, rfl⟩
        go_wp2_with fail
        refine (HI.out _).mono ?_
        rintro r w4 ⟨rfl, n5, rfl⟩
        go_wp2_with fail
        refine (hM.out _).mono ?_
        rintro r w4 ⟨rfl, n6, hw4⟩
        have hB4 : Below w2.heap.size w2 w4 := by rw [hw4]; first | exact below_drewN (below_drewN (below_drewN hBr _) _) _ | exact below_drewN (below_drewN hBr _) _
        have hO4 : OwnU w4 w2.heap.size O k (R.take k) := by rw [hw4]; exact HO.out
        have hs4 := hB4.size
        clear hw4 hBr hws
        go_wp2_with (at_builtin; refine wpList_append_own _ rfl _ _ 29 rfl w2.heap.size 25 i0 (.int .u64 0) 1 8 Tryz.underlying29 hi hz0 hz1 hz2 rfl (by decide) _ _ _ rfl (World.ownsRow.alloc hO4 _) ⟨w4.heap.size, 0, none⟩ 1 1 [.int .u64 x] rfl rfl ?c1 ?c2 ?c3 ?c4 ?c5 ?_)
        case c1 =>
          intro j u hj
          match j, hj with
          | 0, hj => simp at hj; subst hj; simp [Addr.add]
        case c2 => intro u hu; simp at hu; subst hu; rfl
        case c3 => unfold maxLen; omega
        case c4 => omega
        case c5 => simp; omega
        intro v' w6 hown' hgrow _
        have hO : OwnU w6 w2.heap.size v' (k + 1) (R.take (k + 1)) := by
          unfold OwnU
          rw [ints_snocU _ _ (by omega), ← HX.out]
          exact hown'
        have hB' := (hB4.alloc hs4 (.cells #[.int .u64 x] 25)).grown hgrow (by simp; omega) (fun k hk => (World.ownsRow.lt hO4 k hk).1)
        have HO' := Lib.hid hO
        clear hgrow hO4 hB4 hown' hO
        go_wp2
        go_roundw
        case rel => exact ⟨k + 1, _, rfl, by go_num, by omega, HO'.out, hB'⟩
        case measure => simp [intOf]; omega
    · obtain rfl : k = L.length := by omega
      have he : R.take L.length = R := List.take_of_length_le (by omega)
      rw [he] at hown
      have HO := Lib.hid (hown.mono hs2)
      have HB := Lib.hid (hBt.trans (hBr.mono hs2))
      clear he hown
      go_wp2
      go_ret
      exact ⟨_, rfl, HO.out, HB.out⟩
end Go.Proofs.YthhkljfgkihfgaaGreat
