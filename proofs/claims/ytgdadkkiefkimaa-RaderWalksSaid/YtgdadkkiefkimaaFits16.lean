/- rader.Fits; Walk, Fits of the document. -/
import Derived.Test.YtgdadkkiefkimaaDivides
import Derived.Test.YtgdadkkiefkimaaMade16
import Derived.Test.YtgdadkkiefkimaaOnce
namespace Go.Proofs.Ytgdadkkiefkimaa
open Go.RowKit
open Alg

theorem rpad_range (n : Int) : 0 ≤ rpad n ∧ rpad n ≤ 4096 := by
  unfold rpad pd
  repeat (first | omega | split)
theorem fits_nil (n : Int) (w : World) (h0 : -9223372036854775808 ≤ n) (h1 : n ≤ 9223372036854775807) : Calls Try.prog 12 #[.pointer none, .int .i64 n] w fun e w' => e = .returned (.bool false) ∧ Below w.heap.size w w' := by
  go_enter Try.func12, Try.ntmps12
  go_wp2_with fail
  refine (rpad_any _ _ h0 h1).mono ?_
  rintro e w1 ⟨rfl, hB1⟩
  go_wp2_with fail
  refine (divides_nil _ _).mono ?_
  rintro e w2 ⟨rfl, rfl⟩
  go_wp2
  go_ret
  exact ⟨rfl, hB1⟩
theorem fits_fd {w : World} {v : Value} {p g : Int} (h : Fd w w.heap.size v p g) (n : Int) (h0 : -9223372036854775808 ≤ n) (h1 : n ≤ 9223372036854775807) :
    Calls Try.prog 12 #[v, .int .i64 n] w fun e w' => e = .returned (.bool (decide (0 < rpad n) && ((p - 1) % rpad n == 0))) ∧ Below w.heap.size w w' := by
  obtain ⟨r0, r1⟩ := rpad_range n
  go_enter Try.func12, Try.ntmps12
  go_wp2_with fail
  refine (rpad_any _ _ h0 h1).mono ?_
  rintro e w1 ⟨rfl, hB1⟩
  have hF := h.below hB1
  go_wp2_with fail
  refine (divides_fd hF _ (by omega) (by omega)).mono ?_
  rintro e w2 ⟨rfl, rfl⟩
  go_wp2
  go_ret
  exact ⟨rfl, hB1⟩
theorem rfits_any (p n : Int) (w : World) (p1 : 3 ≤ p) (p2 : p < 9223372036854775808) (h0 : -9223372036854775808 ≤ n) (h1 : n ≤ 9223372036854775807) :
    Calls Try.prog 13 #[.int .u64 p, .int .i64 n] w fun e w' => e = .returned (.bool (decide (0 < rpad n) && ((p - 1) % rpad n == 0))) ∧ w = w' := by
  have hP := fun w => rpadr_any n w h0 h1
  obtain ⟨r0, r1⟩ := rpad_range n
  generalize rpad n = r at *
  by_cases hn : 0 < r
  · have t1 : decide (0 < r) = true := by simpa using hn
    have t2 : (r == 0) = false := by simp; omega
    have HZ : Hid ((decide (0 < r) && ((p - 1) % r == 0)) = ((p - 1) % r == 0)) := Lib.hid (by rw [t1]; rfl)
    go_enter Try.func13, Try.ntmps13
    go_wp2_with fail
    refine (hP _).mono ?_
    rintro e w1 ⟨rfl, rfl⟩
    go_wp2_with fail
    refine (hP _).mono ?_
    rintro e w1 ⟨rfl, rfl⟩
    go_wp2
    go_ret
    exact ⟨by rw [HZ.out]; first | rfl | simp, rfl⟩
  · have t1 : decide (0 < r) = false := by simpa using hn
    have HZ : Hid ((decide (0 < r) && ((p - 1) % r == 0)) = false) := Lib.hid (by rw [t1]; rfl)
    clear hn
    go_enter Try.func13, Try.ntmps13
    go_wp2_with fail
    refine (hP _).mono ?_
    rintro e w1 ⟨rfl, rfl⟩
    go_wp2
    go_ret
    exact ⟨by rw [HZ.out]; first | rfl | simp, rfl⟩
theorem inv6_any (a m : Int) (w : World) (ha0 : 0 ≤ a) (ha : a ≤ 18446744073709551615) (hm0 : 2 ≤ m) (hm : m ≤ 18446744073709551615) :
    Calls Try.prog 25 #[.int .u64 a, .int .u64 m] w fun r w' => r = .returned (.int .u64 (a ^ (m - 2).toNat % m)) ∧ ∃ n, w' = w.drewN n := by
  go_enter Try.func25, Try.ntmps25
  go_wp2_with fail
  refine (r2powI_any a (m - 2) m _ (by omega) (by omega) ha0 ha (by omega) hm).mono ?_
  rintro r w1 ⟨rfl, n1, rfl⟩
  go_wp2
  go_ret
  exact ⟨rfl, _, rfl⟩

theorem pow_emod_emod (a m : Int) (j : Nat) : (a % m) ^ j % m = a ^ j % m := by
  induction j with
  | zero => simp
  | succ j ih => rw [Int.pow_succ, Int.mul_emod, ih, Int.emod_emod, ← Int.mul_emod, ← Int.pow_succ]
theorem pow_period {n g : Nat} (hp : Prime n) (h3 : 3 ≤ n) (hg : IsGen n g) (q r : Nat) : (g : Int) ^ ((n - 1) * q + r) % (n : Int) = (g : Int) ^ r % (n : Int) := by
  haveI : NeZero n := ⟨by omega⟩
  have h1 : (g : Int) ^ ((n - 1) * q) % (n : Int) = 1 := (zt_pow_one hp.1 g _).2 ((hg.ord hp h3).dvd.2 ⟨q, rfl⟩)
  rw [Int.pow_add, Int.mul_emod, h1, Int.one_mul, Int.emod_emod]
theorem back_pow {n g j : Nat} (hp : Prime n) (h3 : 3 ≤ n) (hg : IsGen n g) (hj : j < n - 1) : ((g : Int) ^ (n - 2) % (n : Int)) ^ j % (n : Int) = (g : Int) ^ wex n true j % (n : Int) := by
  have e0 : ((g : Int) ^ (n - 2) % (n : Int)) ^ j % (n : Int) = (g : Int) ^ ((n - 2) * j) % (n : Int) := by
    rw [Int.pow_mul]
    exact pow_emod_emod _ _ _
  rw [e0]
  unfold wex
  simp only [if_true]
  rcases Nat.eq_zero_or_pos j with h0 | h0
  · subst h0; simp
  · rw [Nat.mod_eq_of_lt (by omega)]
    have : (n - 2) * j = (n - 1) * (j - 1) + (n - 1 - j) := by
      obtain ⟨i, rfl⟩ : ∃ i, j = i + 1 := ⟨j - 1, by omega⟩
      obtain ⟨m, rfl⟩ : ∃ m, n = m + 2 := ⟨n - 2, by omega⟩
      simp only [Nat.add_sub_cancel]
      rw [show m + 2 - 1 = m + 1 by omega, Nat.mul_succ, Nat.succ_mul]
      omega
    rw [this, pow_period hp h3 hg]
theorem ints_snoc (k : IntKind) (xs : List Int) (i : Nat) (h : i < xs.length) : ints k (xs.take (i + 1)) = ints k (xs.take i) ++ [.int k (xs.getD i 0)] := by
  rw [List.take_succ_eq_append_getElem h, List.getD_eq_getElem?_getD, List.getElem?_eq_getElem h, ints, List.map_append]; rfl

set_option maxHeartbeats 1000000 in
set_option maxRecDepth 100000 in
theorem rwalk_yes (n : Nat) (back : Bool) (w : World) (h3 : 3 ≤ n) (hn : n ≤ 1024) (hp : Prime n) :
    Calls Try.prog 11 #[.int .i64 n, .bool back] w fun e w' => ∃ v g, e = .returned v ∧ IsGen n g ∧ w'.ownsRow w.heap.size 3 1 v (n - 1) (ints .i64 (wk n g back)) ∧ Below w.heap.size w w' := by
  obtain ⟨i0, hi, hz0, hz1, hz2⟩ := info_parts info_int
  have hr : Hid (1 ≤ rpad n) := Lib.hid (by
    unfold rpad
    rw [if_pos ⟨by omega, by omega, by simpa using isP_true.2 hp⟩]
    unfold pd
    repeat (first | omega | split))
  obtain ⟨g, hg⟩ := isGen_ex hp h3
  have HG := Lib.hid hg
  have hgn := hg.lt hp h3
  have hg2 := hg.1
  have hGn : Hid (∀ W : World, Calls Try.prog 24 #[.int .u64 n] W fun e w' => e = .returned (.int .u64 g) ∧ W = w') := Lib.hid (fun W => (rgen_at h3 (by omega) hp hg W).mono fun _ _ ⟨a, b⟩ => ⟨a, b.symm⟩)
  have t0 : (rpad n == 0) = false := beq_eq_false_iff_ne.2 (by have := hr.out; omega)
  obtain ⟨h, hh⟩ : ∃ h : Int, h = if back then (g : Int) ^ (n - 2) % (n : Int) else g := ⟨_, rfl⟩
  have hh0 : 0 ≤ h := by
    rw [hh]; split
    · exact Int.emod_nonneg _ (by omega)
    · omega
  have hh1 : h ≤ n := by
    rw [hh]; split
    · have := Int.emod_lt_of_pos ((g : Int) ^ (n - 2)) (show (0 : Int) < n by omega); omega
    · omega
  have HK : Hid (∀ k, k < n - 1 → h ^ k % (n : Int) = (wk n g back).getD k 0) := Lib.hid (fun k hk => by
    rw [wk_get back hk, hh]
    cases back with
    | true => simp only [if_true]; exact back_pow hp h3 hg hk
    | false => rfl)
  have hIn : Hid (back = true → ∀ W : World, Calls Try.prog 25 #[.int .u64 g, .int .u64 n] W fun r w' => r = .returned (.int .u64 h) ∧ ∃ n, w' = W.drewN n) := Lib.hid (fun hb W => by
    have := inv6_any g n W (by omega) (by omega) (by omega) (by omega)
    rw [show ((n : Int) - 2).toNat = n - 2 by omega] at this
    rw [hh, hb]
    exact this)
  have hFa : Hid (back = false → h = g) := Lib.hid (fun hb => by rw [hh, hb]; rfl)
  have ex : Hid ((1 : Int) = h ^ 0 % (n : Int)) := Lib.hid (by rw [Int.pow_zero, Int.emod_eq_of_lt (by omega) (by omega)])
  have hlen : (wk n g back).length = n - 1 := wk_length n g back
  have HW : Hid (wk n g back = wk n g back) := Lib.hid rfl
  obtain ⟨L, hL⟩ : ∃ L, L = wk n g back := ⟨_, rfl⟩
  rw [← hL] at HK hlen
  have HL := Lib.hid hL
  clear hg hp hh hL HW
  suffices H : Calls Try.prog 11 #[.int .i64 n, .bool back] w fun e w' => ∃ v, e = .returned v ∧ w'.ownsRow w.heap.size 3 1 v (n - 1) (ints .i64 L) ∧ Below w.heap.size w w' from
    H.mono fun e w' ⟨v, a, b, c⟩ => ⟨v, g, a, HG.out, by rw [← HL.out]; exact b, c⟩
  clear HG HL
  cases back with
  | false =>
    obtain rfl : h = g := hFa.out (by first | rfl | trivial)
    clear hIn hFa
    go_enter Try.func11, Try.ntmps11
    go_wp2_with fail
    refine (rpadr_any _ _ (by omega) (by omega)).mono ?_
    rintro e w1 ⟨rfl, rfl⟩
    go_wp2_with fail
    refine (hGn.out _).mono ?_
    rintro e w1 ⟨rfl, rfl⟩
    go_wp2
    go_loopw [5, 7, 8] (fun O X I wr => ∃ (i : Nat) (x : Int) (Ov : Value), Ov = O ∧ X = .int .u64 x ∧ I = .int .i64 i ∧ 1 ≤ i ∧ i ≤ n ∧ 0 ≤ x ∧ x < n ∧ Hid (x = (g : Int) ^ (i - 1) % (n : Int)) ∧ wr.ownsRow w.heap.size 3 1 Ov (i - 1) (ints .i64 (L.take (i - 1))) ∧ Below w.heap.size w wr) (fun _ _ I _ => n - (intOf I).toNat)
    case atStart => exact ⟨1, 1, _, rfl, rfl, rfl, by omega, by omega, by omega, by omega, ex, World.ownsRow_nil _ _ _ _, by first | exact Below.refl _ _ | exact below_drewN (Below.refl _ _) _⟩
    case round =>
      obtain ⟨i, x, O, rfl, rfl, rfl, i1, i2, x0, x1, hx, hown, hB⟩ := hrel
      have hws := hB.size
      by_cases hlt : i < n
      · have m1 : 0 ≤ x * (g : Int) := Int.mul_nonneg x0 (by omega)
        have m2 : x * (g : Int) ≤ 1024 * 1024 := Int.mul_le_mul (by omega) (by omega) (by omega) (by omega)
        have y0 := Int.emod_nonneg (x * (g : Int)) (show (n : Int) ≠ 0 by omega)
        have y1 := Int.emod_lt_of_pos (x * (g : Int)) (show (0 : Int) < n by omega)
        have tn : ((n : Int) == 0) = false := by simp; omega
        have hnx : Hid (x * (g : Int) % n = (g : Int) ^ (i + 1 - 1) % (n : Int)) := Lib.hid (by
          rw [hx.out, modl, show i + 1 - 1 = (i - 1) + 1 by omega, Int.pow_succ])
        have hxl : Hid (x = L.getD (i - 1) 0) := Lib.hid (by rw [← HK.out _ (by omega)]; exact hx.out)
        go_wp2_with (at_builtin; refine wpList_append_own _ rfl _ _ 23 rfl w.heap.size 3 i0 (.int .i64 0) 1 8 Try.underlying23 hi hz0 hz1 hz2 rfl (by decide) _ _ _ rfl (hown.alloc _) ⟨wr.heap.size, 0, none⟩ 1 1 [.int .i64 x] rfl rfl ?c1 ?c2 ?c3 ?c4 ?c5 ?_)
        case c1 =>
          intro j u hj
          match j, hj with
          | 0, hj => simp at hj; subst hj; simp [Addr.add]
        case c2 => intro u hu; simp at hu; subst hu; rfl
        case c3 => unfold maxLen; omega
        case c4 => omega
        case c5 => simp; omega
        intro v' w6 hown' hgrow _
        have es : ints .i64 (L.take (i + 1 - 1)) = ints .i64 (L.take (i - 1)) ++ [.int .i64 x] := by
          rw [show i + 1 - 1 = i - 1 + 1 by omega, ints_snoc _ _ _ (by omega), ← hxl.out]
        rw [← es] at hown'
        have hB' := (hB.alloc hws (.cells #[.int .i64 x] 3)).grown hgrow (by simp; omega) (fun k hk => (hown.lt k hk).1)
        clear hgrow hown hB es
        go_wp2
        go_roundw
        case rel => exact ⟨i + 1, x * g % n, _, rfl, by first | rfl | go_num, by go_num, by omega, by omega, y0, y1, hnx, hown', hB'⟩
        case measure => simp [intOf]; omega
      · obtain rfl : i = n := by omega
        have he : L.take (i - 1) = L := List.take_of_length_le (by omega)
        rw [he] at hown
        clear he
        go_wp2
        go_ret
        exact ⟨_, rfl, hown, hB⟩
  | true =>
    clear hFa
    go_enter Try.func11, Try.ntmps11
    go_wp2_with fail
    refine (rpadr_any _ _ (by omega) (by omega)).mono ?_
    rintro e w1 ⟨rfl, rfl⟩
    go_wp2_with fail
    refine (hGn.out _).mono ?_
    rintro e w1 ⟨rfl, rfl⟩
    go_wp2_with fail
    refine (hIn.out (by first | rfl | trivial) _).mono ?_
    rintro e w1 ⟨rfl, nn, rfl⟩
    go_wp2
    go_loopw [5, 7, 8] (fun O X I wr => ∃ (i : Nat) (x : Int) (Ov : Value), Ov = O ∧ X = .int .u64 x ∧ I = .int .i64 i ∧ 1 ≤ i ∧ i ≤ n ∧ 0 ≤ x ∧ x < n ∧ Hid (x = (h : Int) ^ (i - 1) % (n : Int)) ∧ wr.ownsRow w.heap.size 3 1 Ov (i - 1) (ints .i64 (L.take (i - 1))) ∧ Below w.heap.size w wr) (fun _ _ I _ => n - (intOf I).toNat)
    case atStart => exact ⟨1, 1, _, rfl, rfl, rfl, by omega, by omega, by omega, by omega, ex, World.ownsRow_nil _ _ _ _, by first | exact Below.refl _ _ | exact below_drewN (Below.refl _ _) _⟩
    case round =>
      obtain ⟨i, x, O, rfl, rfl, rfl, i1, i2, x0, x1, hx, hown, hB⟩ := hrel
      have hws := hB.size
      by_cases hlt : i < n
      · have m1 : 0 ≤ x * (h : Int) := Int.mul_nonneg x0 (by omega)
        have m2 : x * (h : Int) ≤ 1024 * 1024 := Int.mul_le_mul (by omega) (by omega) (by omega) (by omega)
        have y0 := Int.emod_nonneg (x * (h : Int)) (show (n : Int) ≠ 0 by omega)
        have y1 := Int.emod_lt_of_pos (x * (h : Int)) (show (0 : Int) < n by omega)
        have tn : ((n : Int) == 0) = false := by simp; omega
        have hnx : Hid (x * (h : Int) % n = (h : Int) ^ (i + 1 - 1) % (n : Int)) := Lib.hid (by
          rw [hx.out, modl, show i + 1 - 1 = (i - 1) + 1 by omega, Int.pow_succ])
        have hxl : Hid (x = L.getD (i - 1) 0) := Lib.hid (by rw [← HK.out _ (by omega)]; exact hx.out)
        go_wp2_with (at_builtin; refine wpList_append_own _ rfl _ _ 23 rfl w.heap.size 3 i0 (.int .i64 0) 1 8 Try.underlying23 hi hz0 hz1 hz2 rfl (by decide) _ _ _ rfl (hown.alloc _) ⟨wr.heap.size, 0, none⟩ 1 1 [.int .i64 x] rfl rfl ?c1 ?c2 ?c3 ?c4 ?c5 ?_)
        case c1 =>
          intro j u hj
          match j, hj with
          | 0, hj => simp at hj; subst hj; simp [Addr.add]
        case c2 => intro u hu; simp at hu; subst hu; rfl
        case c3 => unfold maxLen; omega
        case c4 => omega
        case c5 => simp; omega
        intro v' w6 hown' hgrow _
        have es : ints .i64 (L.take (i + 1 - 1)) = ints .i64 (L.take (i - 1)) ++ [.int .i64 x] := by
          rw [show i + 1 - 1 = i - 1 + 1 by omega, ints_snoc _ _ _ (by omega), ← hxl.out]
        rw [← es] at hown'
        have hB' := (hB.alloc hws (.cells #[.int .i64 x] 3)).grown hgrow (by simp; omega) (fun k hk => (hown.lt k hk).1)
        clear hgrow hown hB es
        go_wp2
        go_roundw
        case rel => exact ⟨i + 1, x * h % n, _, rfl, by first | rfl | go_num, by go_num, by omega, by omega, y0, y1, hnx, hown', hB'⟩
        case measure => simp [intOf]; omega
      · obtain rfl : i = n := by omega
        have he : L.take (i - 1) = L := List.take_of_length_le (by omega)
        rw [he] at hown
        clear he
        go_wp2
        go_ret
        exact ⟨_, rfl, hown, hB⟩

theorem rwalk_no (n : Int) (back : Bool) (w : World) (h0 : -9223372036854775808 ≤ n) (h1 : n ≤ 9223372036854775807) (hr : rpad n = 0) :
    Calls Try.prog 11 #[.int .i64 n, .bool back] w fun e w' => e = .returned (.slice none 0 0) ∧ w = w' := by
  have HR := Lib.hid hr
  clear hr
  go_enter Try.func11, Try.ntmps11
  go_wp2_with fail
  refine (rpadr_any _ _ h0 h1).mono ?_
  rintro e w1 ⟨rfl, rfl⟩
  rw [HR.out]
  go_wp2
  go_ret
  exact ⟨rfl, rfl⟩
end Go.Proofs.Ytgdadkkiefkimaa
