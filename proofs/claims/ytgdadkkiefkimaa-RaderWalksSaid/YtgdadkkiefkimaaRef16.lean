/- The references' Prime, Pads; the law's ints. -/
import Derived.Test.YtgdadkkiefkimaaGenr
namespace Go.Proofs.Ytgdadkkiefkimaa
open Go.RowKit
open Alg (Prime)

theorem trial_prime {n d : Nat} (h2 : 2 ≤ n) (hd : n < d * d) (h : ∀ c, 2 ≤ c → c < d → ¬ c ∣ n) : Prime n := by
  refine ⟨h2, fun c hc => ?_⟩
  obtain ⟨k, hk⟩ := hc
  by_cases h1 : c = 1
  · exact .inl h1
  · by_cases hk1 : k = 1
    · subst hk1; exact .inr (by omega)
    · exfalso
      have hc0 : c ≠ 0 := fun e => by subst e; omega
      have hk0 : k ≠ 0 := fun e => by subst e; omega
      rcases Nat.lt_or_ge c d with hcd | hcd
      · exact h c (by omega) hcd ⟨k, hk⟩
      · rcases Nat.lt_or_ge k d with hkd | hkd
        · exact h k (by omega) hkd ⟨c, by rw [hk, Nat.mul_comm]⟩
        · have := Nat.mul_le_mul hcd hkd
          omega

set_option maxHeartbeats 400000 in
theorem rprime_any (n : Nat) (w : World) (h1 : 2 ≤ n) (h2 : n ≤ 4294967296) :
    Calls Try.prog 15 #[.int .u64 n] w fun e w' => e = .returned (.bool (isP n)) ∧ w = w' := by
  have t1 : (decide ((n : Int) < 2)) = false := by simp; omega
  have t2 : (decide ((4294967296 : Int) < n)) = false := by simp; omega
  go_enter Try.func15, Try.ntmps15
  go_wp2
  go_loop [3] (fun D => ∃ d : Nat, D = .int .u64 d ∧ 2 ≤ d ∧ d ≤ 65537 ∧ Hid (∀ c, 2 ≤ c → c < d → ¬ c ∣ n)) (fun D => (65540 - intOf D).toNat)
  case atStart => exact ⟨2, rfl, by omega, by omega, Lib.hid (fun c a b => by omega)⟩
  case round =>
    obtain ⟨d, rfl, hd2, hd, hno⟩ := hrel
    have hdd : d * d ≤ 65537 * 65537 := Nat.mul_le_mul hd hd
    have hddi : ((d : Int) * d) = ((d * d : Nat) : Int) := by simp
    have hw : IntKind.u64.wrap ((d : Int) * d) = (d : Int) * d := IntWalk.u64_in _ (by rw [hddi]; omega)
    by_cases hb : d * d ≤ n
    · have tb : decide ((d : Int) * d ≤ n) = true := by rw [hddi]; simp; omega
      have hd3 : d ≤ 65536 := by
        rcases Nat.lt_or_ge 65536 d with h | h
        · have : 65537 * 65537 ≤ d * d := Nat.mul_le_mul h h
          omega
        · exact h
      by_cases hdv : d ∣ n
      · have tm : ((n : Int) % d == 0) = true := by
          rw [beq_iff_eq, ← Int.natCast_emod, Nat.mod_eq_zero_of_dvd hdv]; rfl
        have HP : Hid (isP n = false) := Lib.hid (isP_false.2 (fun hp => by
          have h5 : 2 * d ≤ d * d := Nat.mul_le_mul_right d hd2
          rcases hp.2 d hdv with h3 | h3 <;> omega))
        clear hdv hddi hdd
        go_wp2
        go_ret
        exact ⟨ret_bool HP.out.symm, rfl⟩
      · have tm : ((n : Int) % d == 0) = false := by
          rw [beq_eq_false_iff_ne, ← Int.natCast_emod]
          intro h0
          exact hdv (Nat.dvd_of_mod_eq_zero (by omega))
        have HN : Hid (∀ c, 2 ≤ c → c < d + 1 → ¬ c ∣ n) := Lib.hid (fun c a b => by
          by_cases e : c = d
          · exact e ▸ hdv
          · exact hno.out c a (by omega))
        clear hdv hddi hdd
        go_wp2
        go_round
        case rel => exact ⟨d + 1, by go_num, by omega, by omega, HN⟩
        case measure => simp [intOf]; omega
    · have tb : decide ((d : Int) * d ≤ n) = false := by rw [hddi]; simp; omega
      have HP : Hid (isP n = true) := Lib.hid (isP_true.2 (trial_prime h1 (by omega) hno.out))
      clear hddi hdd
      go_wp2
      go_ret
      exact ⟨ret_bool HP.out.symm, rfl⟩

set_option maxHeartbeats 400000 in
theorem rpad2_any (n : Int) (w : World) (h0 : -9223372036854775808 ≤ n) (h1 : n ≤ 9223372036854775807) :
    Calls Try.prog 16 #[.int .i64 n] w fun e w' => e = .returned (.int .i64 (pd n)) ∧ w = w' := by
  go_enter Try.func16, Try.ntmps16
  go_wp2
  go_loop [3] (fun R => ∃ r : Int, R = .int .i64 r ∧ (OnWay n r ∨ (r = 8192 ∧ 4096 < n))  ∧ 1 ≤ r ∧ r ≤ 8192) (fun R => (8200 - intOf R).toNat)
  case atStart => exact ⟨1, rfl, .inl (.inl rfl), by omega, by omega⟩
  case round =>
    obtain ⟨r, rfl, hr, hr1, hr2⟩ := hrel
    by_cases hle : r ≤ 4096
    · by_cases hlt : n ≤ r
      · have H : Hid (r = pd n) := Lib.hid (by
          rcases hr with hr | hr
          · exact hr.done (by omega) hlt
          · omega)
        clear hr
        go_wp2
        go_ret
        exact ⟨ret_int H.out, rfl⟩
      · have H : Hid (OnWay n (r * 2) ∨ (r * 2 = 8192 ∧ 4096 < n)) := Lib.hid (by
          rcases hr with hr | hr
          · unfold OnWay at *
            omega
          · omega)
        clear hr
        go_wp2
        go_round
        case rel => exact ⟨r * 2, by go_num, H.out, by omega, by omega⟩
        case measure => simp [intOf]; omega
    · have H : Hid (pd n = 0) := Lib.hid (by
        unfold pd
        rcases hr with hr | hr
        · unfold OnWay at hr; omega
        · rw [if_pos hr.2])
      clear hr
      go_wp2
      go_ret
      exact ⟨ret_int H.out.symm, rfl⟩

set_option maxHeartbeats 400000 in
theorem rpadr_any (n : Int) (w : World) (h0 : -9223372036854775808 ≤ n) (h1 : n ≤ 9223372036854775807) :
    Calls Try.prog 7 #[.int .i64 n] w fun e w' => e = .returned (.int .i64 (rpad n)) ∧ w = w' := by
  by_cases a : 3 ≤ n
  · by_cases b : n ≤ 1024
    · obtain ⟨k, rfl⟩ := Int.eq_ofNat_of_zero_le (show 0 ≤ n by omega)
      by_cases hp : Prime k
      · have hf : Hid (isP k = true) := Lib.hid (isP_true.2 hp)
        have hr : Hid (pd (2 * (k : Int) - 3) = rpad k) := Lib.hid (by unfold rpad; rw [if_pos ⟨a, b, by simpa using hf.out⟩])
        go_enter Try.func7, Try.ntmps7
        go_wp2_with (first | (go_at_call 15; refine (rprime_any k _ (by omega) (by omega)).mono ?_; rintro e w1 ⟨rfl, rfl⟩; rw [hf.out]) | (go_at_call 16; refine (rpad2_any _ _ (by omega) (by omega)).mono ?_; rintro e w2 ⟨rfl, rfl⟩))
        go_ret
        exact ⟨ret_int hr.out, rfl⟩
      · have hf : Hid (isP k = false) := Lib.hid (isP_false.2 hp)
        have hr : Hid (rpad k = 0) := Lib.hid (by unfold rpad; rw [if_neg (fun h => hp (isP_true.1 (by simpa using h.2.2)))])
        go_enter Try.func7, Try.ntmps7
        go_wp2_with (go_at_call 15; refine (rprime_any k _ (by omega) (by omega)).mono ?_; rintro e w1 ⟨rfl, rfl⟩; rw [hf.out])
        go_ret
        exact ⟨ret_int hr.out.symm, rfl⟩
    · have hr : Hid (rpad n = 0) := Lib.hid (by unfold rpad; rw [if_neg (fun h => b h.2.1)])
      go_enter Try.func7, Try.ntmps7
      go_wp2
      go_ret
      exact ⟨ret_int hr.out.symm, rfl⟩
  · have hr : Hid (rpad n = 0) := Lib.hid (by unfold rpad; rw [if_neg (fun h => a h.1)])
    go_enter Try.func7, Try.ntmps7
    go_wp2
    go_ret
    exact ⟨ret_int hr.out.symm, rfl⟩

/-- A slice of whole numbers that is read. -/
def RdI (w : World) (B : Nat) (k : IntKind) (A : Option Addr) (xs : List Int) : Prop :=
  0 < xs.length → ∃ b o, A = some ⟨b, o, none⟩ ∧ b < B ∧ ∀ j, j < xs.length → w.cell? ⟨b, o + j, none⟩ = some (.int k (xs.getD j 0))
theorem RdI.below {w w' : World} {B : Nat} {k : IntKind} {A : Option Addr} {xs : List Int} (h : RdI w B k A xs) (hb : Below B w w') : RdI w' B k A xs := fun hl => by
  obtain ⟨b, o, e, hlt, hc⟩ := h hl
  exact ⟨b, o, e, hlt, fun j hj => cell_keep hb hlt (hc j hj)⟩
theorem RdI.mono {w : World} {B B' : Nat} {k : IntKind} {A : Option Addr} {xs : List Int} (h : RdI w B k A xs) (hb : B ≤ B') : RdI w B' k A xs := fun hl => by
  obtain ⟨b, o, e, hlt, hc⟩ := h hl
  exact ⟨b, o, e, by omega, hc⟩
def ints (k : IntKind) (xs : List Int) : List Value := xs.map (Value.int k)
theorem RdI.of_own {w : World} {base : Nat} {e : TypeId} {k : IntKind} {v : Value} {xs : List Int} (h : w.ownsRow base e 1 v xs.length (ints k xs)) : ∃ A c, v = .slice A xs.length c ∧ RdI w w.heap.size k A xs := by
  rcases Nat.eq_zero_or_pos xs.length with h0 | h0
  · rcases h.2 with ⟨rfl, hl⟩ | ⟨g, cap, cur, rfl, _⟩
    · exact ⟨none, 0, by rw [h0], fun hp => by omega⟩
    · exact ⟨_, cap, rfl, fun hp => by omega⟩
  · obtain ⟨g, cap, rfl, _, hlt⟩ := h.form h0
    refine ⟨_, cap, rfl, fun _ => ⟨g, 0, rfl, hlt, fun j hj => ?_⟩⟩
    have e1 := h.cells (g := g) rfl j (.int k (xs.getD j 0)) (by simp [ints, List.getElem?_eq_getElem hj, List.getD_eq_getElem?_getD])
    have ea : ∀ n, (⟨g, 0, none⟩ : Addr).add n = ⟨g, 0 + n, none⟩ := fun n => by unfold Addr.add; split <;> simp_all
    rw [ea] at e1
    exact e1
theorem take_ext {xs ys : List Int} {k : Nat} (h : xs.take k = ys.take k) (hk : k < xs.length) (hk' : k < ys.length) (e : xs.getD k 0 = ys.getD k 0) : xs.take (k + 1) = ys.take (k + 1) := by
  rw [List.take_succ_eq_append_getElem hk, List.take_succ_eq_append_getElem hk', h]
  simp only [List.getD_eq_getElem?_getD, List.getElem?_eq_getElem hk, List.getElem?_eq_getElem hk', Option.getD_some] at e
  rw [e]
set_option maxHeartbeats 400000 in
theorem ints_any (A B : Option Addr) (c d n : Nat) (xs ys : List Int) (w : World) (hx : xs.length ≤ 140737488351232) (hy : ys.length ≤ 140737488351232) (hX : RdI w n .i64 A xs) (hY : RdI w n .i64 B ys) :
   Calls Try.prog 10 #[.slice A xs.length c, .slice B ys.length d] w fun e w' => e = .returned (.bool (decide (xs = ys))) ∧ Below w.heap.size w w' := by
  by_cases hl : xs.length = ys.length
  · have h1 : ((xs.length : Int) != ys.length) = false := by simp [hl]
    have HL := Lib.hid hl
    clear hl
    go_enter Try.func10, Try.ntmps10
    go_wp2
    go_loopw [5, 13] (fun _ i wr => ∃ k : Nat, ∃ n, k ≤ xs.length ∧ i = .int .i64 k ∧ wr = w.drewN n ∧ Hid (xs.take k = ys.take k)) (fun _ i _ => xs.length - (intOf i).toNat)
    case atStart => exact ⟨0, 0, Nat.zero_le _, rfl, rfl, Lib.hid rfl⟩
    case round =>
      obtain ⟨k, n, hk, rfl, rfl, H⟩ := hrel
      by_cases hlt : k < xs.length
      · obtain ⟨a, o, rfl, _, ha⟩ := hX (by omega)
        obtain ⟨b, o', rfl, _, hb⟩ := hY (by have := HL.out; omega)
        have hky : k < ys.length := by have := HL.out; omega
        have ga := ha k hlt
        have gb := hb k hky
        clear ha hb hX hY
        obtain ⟨x, hx⟩ : ∃ x, x = xs.getD k 0 := ⟨_, rfl⟩
        obtain ⟨y, hy⟩ : ∃ y, y = ys.getD k 0 := ⟨_, rfl⟩
        rw [← hx] at ga
        rw [← hy] at gb
        have HX := Lib.hid hx
        have HY := Lib.hid hy
        clear hx hy
        by_cases e : x = y
        · have t1 : (x != y) = false := by simp [e]
          have HT := Lib.hid (take_ext H.out hlt hky (by rw [← HX.out, ← HY.out, e]))
          clear e
          go_wp2
          go_quiet (fail)
          go_wp2
          go_roundw
          case rel => exact ⟨k + 1, _, by omega, by go_num, rfl, HT⟩
          case measure => simp [intOf]; omega
        · have t1 : (x != y) = true := by simp [e]
          have HE := Lib.hid e
          clear e
          go_wp2
          go_quiet (fail)
          go_wp2
          go_ret
          refine ⟨ret_bool ?_, by first | exact below_drewN (Below.refl _ _) _ | exact below_drewN (below_drewN (Below.refl _ _) _) _⟩
          symm
          rw [decide_eq_false_iff_not]
          intro h
          exact HE.out (by rw [HX.out, HY.out, h])
      · obtain rfl : k = xs.length := by omega
        go_wp2
        go_ret
        refine ⟨ret_bool ?_, below_drewN (Below.refl _ _) _⟩
        symm
        rw [decide_eq_true_iff]
        have := H.out
        rw [List.take_length, HL.out, List.take_length] at this
        exact this
  · have h1 : ((xs.length : Int) != ys.length) = true := by simp; omega
    go_enter Try.func10, Try.ntmps10
    go_wp2
    go_ret
    refine ⟨ret_bool ?_, Below.refl _ _⟩
    symm
    rw [decide_eq_false_iff_not]
    exact fun h => hl (by rw [h])
end Go.Proofs.Ytgdadkkiefkimaa
