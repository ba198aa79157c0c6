/- The law ChirpPairs. -/
import Derived.Test.YthhkljfgkihfgaaGreatAl17
set_option linter.unusedVariables false
set_option linter.unusedSimpArgs false
set_option linter.unusedSectionVars false
set_option linter.unusedVariables false
set_option linter.unusedSimpArgs false
namespace Go.Proofs.YthhkljfgkihfgaaGreat
open Go.RowKit
open Alg
theorem pairs_eq (j k n : Nat) (hn : 0 < n) : ((((tri (j + k) % n : Nat) : Int) - ((tri j % n : Nat) : Int) - ((tri k % n : Nat) : Int)) % (n : Int) + (n : Int)) % (n : Int) = (j : Int) * (k : Int) % (n : Int) := by
  rw [Int.add_emod_right, Int.emod_emod_of_dvd _ ⟨1, by simp⟩]
  have h : ∀ a b c : Int, (a % n - b % n - c % n) % (n : Int) = (a - b - c) % (n : Int) := fun a b c => by
    have e : a % n - b % n - c % n = (a - b - c) + (n : Int) * (b / n + c / n - a / n) := by
      rw [Int.emod_def a, Int.emod_def b, Int.emod_def c, Int.mul_sub, Int.mul_add]; omega
    rw [e, Int.add_mul_emod_self_left]
  rw [Int.natCast_emod, Int.natCast_emod, Int.natCast_emod, h, tri_add]
  congr 1
  rw [Int.natCast_add, Int.natCast_add, Int.natCast_mul]
  omega
set_option maxHeartbeats 2000000 in
theorem chirpPairs_walk (w : World) (x0 : Int) (x1 : Int) (x2 : Int) (h00 : -9223372036854775808 ≤ x0) (h10 : x0 ≤ 9223372036854775807) (h01 : -9223372036854775808 ≤ x1) (h11 : x1 ≤ 9223372036854775807) (h02 : -9223372036854775808 ≤ x2) (h12 : x2 ≤ 9223372036854775807) :
    Calls Tryz.prog 7 #[.int .i64 x0, .int .i64 x1, .int .i64 x2] w fun e w' => e = .returned (.bool true) ∧ Below w.heap.size w w' := by
  have hA := Lib.hid (alive17_any w)
  by_cases hc : 1 ≤ x2 ∧ x2 ≤ 1024 ∧ 0 ≤ x0 ∧ x0 ≤ 1024 ∧ 0 ≤ x1 ∧ x1 ≤ 1024
  · obtain ⟨c1, c2, c3, c4, c5, c6⟩ := hc
    obtain ⟨n, rfl⟩ := Int.eq_ofNat_of_zero_le (show 0 ≤ x2 by omega)
    obtain ⟨j, rfl⟩ := Int.eq_ofNat_of_zero_le c3
    obtain ⟨k, rfl⟩ := Int.eq_ofNat_of_zero_le c5
    have hV := pairs_eq j k n (by omega)
    have m1 := Nat.mod_lt (tri (j + k)) (show 0 < n by omega)
    have m2 := Nat.mod_lt (tri j) (show 0 < n by omega)
    have m3 := Nat.mod_lt (tri k) (show 0 < n by omega)
    have H1 : Hid (∀ wz, Calls Tryz.prog 33 #[.int .i64 ((j : Int) + (k : Int)), .int .i64 n] wz fun e w' => e = .returned (.int .i64 ((tri (j + k) % n : Nat) : Int)) ∧ wz = w') := Lib.hid (fun wz => by
      have h := chalf_any ((j + k : Nat) : Int) n wz (by omega) (by omega) (by omega) (by omega)
      rw [chf_nat (by omega) (by omega) (by omega), Int.natCast_add] at h
      exact h)
    have H2 : Hid (∀ wz, Calls Tryz.prog 33 #[.int .i64 (j : Int), .int .i64 n] wz fun e w' => e = .returned (.int .i64 ((tri j % n : Nat) : Int)) ∧ wz = w') := Lib.hid (fun wz => by
      have h := chalf_any (j : Int) n wz (by omega) (by omega) (by omega) (by omega)
      rw [chf_nat (by omega) (by omega) (by omega)] at h
      exact h)
    have H3 : Hid (∀ wz, Calls Tryz.prog 33 #[.int .i64 (k : Int), .int .i64 n] wz fun e w' => e = .returned (.int .i64 ((tri k % n : Nat) : Int)) ∧ wz = w') := Lib.hid (fun wz => by
      have h := chalf_any (k : Int) n wz (by omega) (by omega) (by omega) (by omega)
      rw [chf_nat (by omega) (by omega) (by omega)] at h
      exact h)
    obtain ⟨a, ha⟩ : ∃ a, a = tri (j + k) % n := ⟨_, rfl⟩
    obtain ⟨b, hb⟩ : ∃ b, b = tri j % n := ⟨_, rfl⟩
    obtain ⟨c, hcc⟩ : ∃ c, c = tri k % n := ⟨_, rfl⟩
    rw [← ha] at H1 hV m1
    rw [← hb] at H2 hV m2
    rw [← hcc] at H3 hV m3
    obtain ⟨d, hd⟩ : ∃ d : Int, d = (a : Int) - (b : Int) - (c : Int) := ⟨_, rfl⟩
    rw [← hd] at hV
    have hd1 : -2048 < d := by omega
    have hd2 : d < 1024 := by omega
    obtain ⟨e, he⟩ : ∃ e : Int, e = d.tmod n := ⟨_, rfl⟩
    have he1 : (e + n) % (n : Int) = (d % (n : Int) + n) % (n : Int) := by
      rw [he, Int.add_emod_right, Int.add_emod_right, Int.emod_emod_of_dvd _ ⟨1, by simp⟩]
      have h1 := Int.mul_tdiv_add_tmod d n
      have h2 : d = d.tmod n + n * d.tdiv n := by omega
      conv => rhs; rw [h2]
      rw [Int.add_mul_emod_self_left]
    have heb : -(n : Int) < e ∧ e < n := by
      rw [he]
      refine ⟨?_, Int.tmod_lt_of_pos d (by omega)⟩
      rcases Int.lt_or_le d 0 with h | h
      · have h1 : d.tmod n = -((-d).tmod n) := by rw [Int.neg_tmod]; omega
        have h2 := Int.tmod_lt_of_pos (-d) (show (0 : Int) < n by omega)
        omega
      · have h2 := Int.tmod_nonneg (n : Int) h
        omega
    have HV : Hid ((e + n) % (n : Int) = (j : Int) * (k : Int) % (n : Int)) := Lib.hid (he1.trans hV)
    have e1 : (a : Int) - (b : Int) - (c : Int) = d := hd.symm
    have e2 : d.tmod n = e := he.symm
    have hjk : (j : Int) * (k : Int) = ((j * k : Nat) : Int) := (Int.natCast_mul j k).symm
    have hjb : j * k ≤ 1024 * 1024 := Nat.mul_le_mul (by omega) (by omega)
    obtain ⟨m, hm⟩ : ∃ m, m = j * k := ⟨_, rfl⟩
    rw [← hm] at hjk hjb
    have HV2 : Hid ((e + n) % (n : Int) = (m : Int) % (n : Int)) := Lib.hid (by rw [HV.out, hjk])
    have t1 : decide ((n : Int) < 1) = false := decide_eq_false (by omega)
    have t2 : decide ((1024 : Int) < n) = false := decide_eq_false (by omega)
    have t3 : decide ((j : Int) < 0) = false := decide_eq_false (by omega)
    have t4 : decide ((1024 : Int) < j) = false := decide_eq_false (by omega)
    have t5 : decide ((k : Int) < 0) = false := decide_eq_false (by omega)
    have t6 : decide ((1024 : Int) < k) = false := decide_eq_false (by omega)
    have t7 : ((n : Int) == 0) = false := by simp; omega
    obtain ⟨hb1, hb2⟩ := heb
    obtain ⟨y, hy⟩ : ∃ y : Int, y = (e + n) % (n : Int) := ⟨_, rfl⟩
    have e3 : (e + n) % (n : Int) = y := hy.symm
    have e4 : (m : Int) % (n : Int) = y := by rw [← HV2.out]; exact hy.symm
    have t8 : (y == y) = true := by simp
    clear ha hb hcc hd hV he1 he hm hy c3 c5
    go_enter Tryz.func7, Tryz.ntmps7
    go_wp2_with fail
    refine hA.out.mono ?_
    rintro r w1 ⟨rfl, hB1⟩
    go_wp2_with fail
    refine (H1.out _).mono ?_
    rintro r w2 ⟨rfl, rfl⟩
    go_wp2_with fail
    refine (H2.out _).mono ?_
    rintro r w2 ⟨rfl, rfl⟩
    go_wp2_with fail
    refine (H3.out _).mono ?_
    rintro r w2 ⟨rfl, rfl⟩
    have v1 : IntKind.i64.wrap (e + (n : Int)) = e + (n : Int) := IntWalk.i64_in _ (by omega)
    have v2 : IntKind.i64.wrap (m : Int) = (m : Int) := IntWalk.i64_in _ (by omega)
    have e5 : (e + (n : Int)).tmod (n : Int) = y := by rw [Int.tmod_eq_emod_of_nonneg (by omega)]; exact e3
    have e6 : (m : Int).tmod (n : Int) = y := by rw [Int.tmod_eq_emod_of_nonneg (by omega)]; exact e4
    go_upto_region 6 with fail
    go_quiet (fail)
    go_wp2
    go_ret
    exact ⟨by first | rfl | simp, below_drewN hB1 _⟩
  · have key : ∀ (b1 b2 b3 b4 b5 b6 : Bool), decide (x2 < 1) = b1 → decide (1024 < x2) = b2 → decide (x0 < 0) = b3 → decide (1024 < x0) = b4 → decide (x1 < 0) = b5 → decide (1024 < x1) = b6 → (b1 || b2 || b3 || b4 || b5 || b6) = true →
        Calls Tryz.prog 7 #[.int .i64 x0, .int .i64 x1, .int .i64 x2] w fun e w' => e = .returned (.bool true) ∧ Below w.heap.size w w' := by
      intro b1 b2 b3 b4 b5 b6 t1 t2 t3 t4 t5 t6 ht
      clear hc
      cases b1
      · cases b2
        · cases b3
          · cases b4
            · cases b5
              · cases b6
                · simp at ht
                · go_enter Tryz.func7, Tryz.ntmps7
                  go_wp2_with fail
                  refine hA.out.mono ?_
                  rintro r w1 ⟨rfl, hB1⟩
                  go_wp2
                  go_ret
                  exact ⟨by first | rfl | simp, hB1⟩
              · go_enter Tryz.func7, Tryz.ntmps7
                go_wp2_with fail
                refine hA.out.mono ?_
                rintro r w1 ⟨rfl, hB1⟩
                go_wp2
                go_ret
                exact ⟨by first | rfl | simp, hB1⟩
            · go_enter Tryz.func7, Tryz.ntmps7
              go_wp2_with fail
              refine hA.out.mono ?_
              rintro r w1 ⟨rfl, hB1⟩
              go_wp2
              go_ret
              exact ⟨by first | rfl | simp, hB1⟩
          · go_enter Tryz.func7, Tryz.ntmps7
            go_wp2_with fail
            refine hA.out.mono ?_
            rintro r w1 ⟨rfl, hB1⟩
            go_wp2
            go_ret
            exact ⟨by first | rfl | simp, hB1⟩
        · go_enter Tryz.func7, Tryz.ntmps7
          go_wp2_with fail
          refine hA.out.mono ?_
          rintro r w1 ⟨rfl, hB1⟩
          go_wp2
          go_ret
          exact ⟨by first | rfl | simp, hB1⟩
      · go_enter Tryz.func7, Tryz.ntmps7
        go_wp2_with fail
        refine hA.out.mono ?_
        rintro r w1 ⟨rfl, hB1⟩
        go_wp2
        go_ret
        exact ⟨by first | rfl | simp, hB1⟩
    refine key _ _ _ _ _ _ rfl rfl rfl rfl rfl rfl ?_
    simp only [Bool.or_eq_true, decide_eq_true_eq]
    omega
end Go.Proofs.YthhkljfgkihfgaaGreat
