/- dft: Check, Good, Scale; the document's Check, Good. -/
import Derived.Test.YtgdadkkiefkimaaGreatWMontBFops
import Derived.Test.YtgdadkkiefkimaaGreatWRef16Ref05Same13
set_option linter.unusedVariables false
set_option linter.unusedSimpArgs false
set_option linter.unusedSectionVars false
namespace Go.Proofs.YtgdadkkiefkimaaGreat
open Go.RowKit

theorem info_u64 : (Tryz.prog.info? 22).map (fun i => (i.zero, i.size, i.bytes)) = some (some (.int .u64 0), 1, 8) := by kernel_rfl
/-- What is wrong with a length. -/
def chk (p n most : Int) : Int := if n < 1 then 1 else if most < n then 13 else if (p - 1) % n = 0 then 0 else 4
theorem check_nil (n most : Int) (w : World) : Calls Tryz.prog 85 #[.pointer none, .int .i64 n, .int .i64 most] w fun e w' => e = .returned (.int .i64 2) ∧ w = w' := by
  go_enter Tryz.func85, Tryz.ntmps85
  go_wp2
  go_ret
  exact ⟨rfl, rfl⟩
theorem check_fd {w : World} {B : Nat} {v : Value} {p g : Int} (h : Fd w B v p g) (n most : Int) (h0 : -9223372036854775808 ≤ n) (h1 : n ≤ 9223372036854775807) :
    Calls Tryz.prog 85 #[v, .int .i64 n, .int .i64 most] w fun e w' => e = .returned (.int .i64 (chk p n most)) ∧ w = w' := by
  have hD := Lib.hid (divides_fd h n h0 h1)
  obtain ⟨b, c, t, o, s, sv, rfl, hb, hc, hF⟩ := h
  by_cases c1 : n < 1
  · have HC : Hid (chk p n most = 1) := Lib.hid (by unfold chk; rw [if_pos c1])
    go_enter Tryz.func85, Tryz.ntmps85
    go_wp2
    go_ret
    exact ⟨ret_int HC.out.symm, rfl⟩
  · by_cases c2 : most < n
    · have HC : Hid (chk p n most = 13) := Lib.hid (by unfold chk; rw [if_neg c1, if_pos c2])
      have t2 : decide (most < n) = true := by simpa using c2
      go_enter Tryz.func85, Tryz.ntmps85
      go_wp2
      go_ret
      exact ⟨ret_int HC.out.symm, rfl⟩
    · have hp : decide (0 < n) = true := by simp; omega
      have t2 : decide (most < n) = false := by simpa using c2
      by_cases c3 : (p - 1) % n = 0
      · have HC : Hid (chk p n most = 0) := Lib.hid (by unfold chk; rw [if_neg c1, if_neg c2, if_pos c3])
        have hb : (decide (0 < n) && ((p - 1) % n == 0)) = true := by rw [hp, c3]; rfl
        rw [hb] at hD
        clear c3 hb
        go_enter Tryz.func85, Tryz.ntmps85
        go_wp2_with fail
        refine hD.out.mono ?_
        rintro e w1 ⟨rfl, rfl⟩
        go_wp2
        go_ret
        exact ⟨ret_int HC.out.symm, rfl⟩
      · have HC : Hid (chk p n most = 4) := Lib.hid (by unfold chk; rw [if_neg c1, if_neg c2, if_neg c3])
        have hb : (decide (0 < n) && ((p - 1) % n == 0)) = false := by rw [hp]; simpa using c3
        rw [hb] at hD
        clear c3 hb
        go_enter Tryz.func85, Tryz.ntmps85
        go_wp2_with fail
        refine hD.out.mono ?_
        rintro e w1 ⟨rfl, rfl⟩
        go_wp2
        go_ret
        exact ⟨ret_int HC.out.symm, rfl⟩
theorem r11check_any (p n most : Int) (w : World) (p1 : 3 ≤ p) (p2 : p < 9223372036854775808) (h0 : -9223372036854775808 ≤ n) (h1 : n ≤ 9223372036854775807) :
    Calls Tryz.prog 20 #[.int .u64 p, .int .i64 n, .int .i64 most] w fun e w' => e = .returned (.int .i64 (chk p n most)) ∧ w = w' := by
  by_cases c1 : n < 1
  · have HC : Hid (chk p n most = 1) := Lib.hid (by unfold chk; rw [if_pos c1])
    go_enter Tryz.func20, Tryz.ntmps20
    go_wp2
    go_ret
    exact ⟨ret_int HC.out.symm, rfl⟩
  · by_cases c2 : most < n
    · have HC : Hid (chk p n most = 13) := Lib.hid (by unfold chk; rw [if_neg c1, if_pos c2])
      have t2 : decide (most < n) = true := by simpa using c2
      go_enter Tryz.func20, Tryz.ntmps20
      go_wp2
      go_ret
      exact ⟨ret_int HC.out.symm, rfl⟩
    · have hz : (n == 0) = false := beq_eq_false_iff_ne.2 (by omega)
      have t2 : decide (most < n) = false := by simpa using c2
      by_cases c3 : (p - 1) % n = 0
      · have HC : Hid (chk p n most = 0) := Lib.hid (by unfold chk; rw [if_neg c1, if_neg c2, if_pos c3])
        have hb : ((p - 1) % n != 0) = false := by simp [c3]
        clear c3
        go_enter Tryz.func20, Tryz.ntmps20
        go_wp2
        go_ret
        exact ⟨ret_int HC.out.symm, rfl⟩
      · have HC : Hid (chk p n most = 4) := Lib.hid (by unfold chk; rw [if_neg c1, if_neg c2, if_neg c3])
        have hb : ((p - 1) % n != 0) = true := by simp [c3]
        clear c3
        go_enter Tryz.func20, Tryz.ntmps20
        go_wp2
        go_ret
        exact ⟨ret_int HC.out.symm, rfl⟩

/-- Are all below p? -/
def goodB (p : Int) (L : List Int) : Bool := L.all fun x => decide (x < p)
theorem goodB_step {p : Int} {L : List Int} {k : Nat} (hk : k < L.length) (h : goodB p (L.take k) = true) : goodB p (L.take (k + 1)) = decide (L.getD k 0 < p) := by
  unfold goodB at *
  rw [List.take_succ_eq_append_getElem hk, List.all_append, h, List.getD_eq_getElem?_getD, List.getElem?_eq_getElem hk]; simp
theorem goodB_no {p : Int} {L : List Int} {k : Nat} (hk : k < L.length) (h : ¬ L.getD k 0 < p) : goodB p L = false := by
  unfold goodB
  rw [List.all_eq_false]
  exact ⟨L[k], List.getElem_mem hk, by rw [List.getD_eq_getElem?_getD, List.getElem?_eq_getElem hk] at h; simpa using h⟩
/-- Bounds of a list's numbers. -/
def U64s (L : List Int) : Prop := ∀ x ∈ L, 0 ≤ x ∧ x ≤ 18446744073709551615
theorem U64s.at {L : List Int} (h : U64s L) {k : Nat} (hk : k < L.length) : 0 ≤ L.getD k 0 ∧ L.getD k 0 ≤ 18446744073709551615 := by
  rw [List.getD_eq_getElem?_getD, List.getElem?_eq_getElem hk]; exact h _ (List.getElem_mem hk)

set_option maxHeartbeats 400000 in
theorem good_fd {w : World} {B : Nat} {v : Value} {p g : Int} (h : Fd w B v p g) (A : Option Addr) (c n : Nat) (L : List Int) (hl : L.length ≤ 140737488351232) (hU : U64s L) (hR : RdI w n .u64 A L) :
    Calls Tryz.prog 87 #[v, .slice A L.length c] w fun e w' => e = .returned (.bool (goodB p L)) ∧ w = w' := by
  have hG := Lib.hid (fun x h0 h1 => fgood_fd h x h0 h1)
  obtain ⟨bf, cf, t, o, s, sv, rfl, hb, hc, hF⟩ := h
  have HU := Lib.hid hU
  clear hF hU
  go_enter Tryz.func87, Tryz.ntmps87
  go_wp2
  go_loopw [6, 9] (fun _ I wr => ∃ k : Nat, I = .int .i64 k ∧ k ≤ L.length ∧ Hid (goodB p (L.take k) = true) ∧ wr = w) (fun _ I _ => L.length - (intOf I).toNat)
  case atStart => exact ⟨0, rfl, by omega, Lib.hid rfl, rfl⟩
  case round =>
    obtain ⟨k, rfl, hk, hg, rfl⟩ := hrel
    by_cases hlt : k < L.length
    · obtain ⟨b, o', rfl, hbl, hcell⟩ := hR (by omega)
      have d := hcell k hlt
      obtain ⟨x, hx⟩ : ∃ x, x = L.getD k 0 := ⟨_, rfl⟩
      have hu := HU.out.at hlt
      have hs := goodB_step hlt hg.out
      have hno := fun h => goodB_no (p := p) hlt h
      rw [← hx] at d hu hs hno
      clear hx hcell hR
      by_cases hxp : x < p
      · have HS : Hid (goodB p (L.take (k + 1)) = true) := Lib.hid (by rw [hs]; simpa using hxp)
        have t1 : decide (x < p) = true := by simpa using hxp
        clear hs hno
        go_wp2_with fail
        refine (hG.out x hu.1 hu.2).mono ?_
        rintro e w1 ⟨rfl, rfl⟩
        go_wp2
        go_roundw
        case rel => exact ⟨k + 1, by go_num, by omega, HS, by trivial⟩
        case measure => simp [intOf]; omega
      · have HS : Hid (goodB p L = false) := Lib.hid (hno hxp)
        have t1 : decide (x < p) = false := by simpa using hxp
        clear hs hno
        go_wp2_with fail
        refine (hG.out x hu.1 hu.2).mono ?_
        rintro e w1 ⟨rfl, rfl⟩
        go_wp2
        go_ret
        exact ⟨by rw [HS.out]; first | rfl | simp, rfl⟩
    · obtain rfl : k = L.length := by omega
      have hz := hg.out
      rw [List.take_length] at hz
      have HZ := Lib.hid hz
      clear hz hg
      go_wp2
      go_ret
      exact ⟨by rw [HZ.out]; first | rfl | simp, rfl⟩

theorem r11good_any (A : Option Addr) (c n : Nat) (p : Int) (L : List Int) (w : World) (hl : L.length ≤ 140737488351232) (hR : RdI w n .u64 A L) :
    Calls Tryz.prog 92 #[.int .u64 p, .slice A L.length c] w fun e w' => e = .returned (.bool (goodB p L)) ∧ w = w' := by
  go_enter Tryz.func92, Tryz.ntmps92
  go_wp2
  go_loopw [6, 9] (fun _ I wr => ∃ k : Nat, I = .int .i64 k ∧ k ≤ L.length ∧ Hid (goodB p (L.take k) = true) ∧ wr = w) (fun _ I _ => L.length - (intOf I).toNat)
  case atStart => exact ⟨0, rfl, by omega, Lib.hid rfl, rfl⟩
  case round =>
    obtain ⟨k, rfl, hk, hg, rfl⟩ := hrel
    by_cases hlt : k < L.length
    · obtain ⟨b, o', rfl, hbl, hcell⟩ := hR (by omega)
      have d := hcell k hlt
      obtain ⟨x, hx⟩ : ∃ x, x = L.getD k 0 := ⟨_, rfl⟩
      have hs := goodB_step hlt hg.out
      have hno := fun h => goodB_no (p := p) hlt h
      rw [← hx] at d hs hno
      clear hx hcell hR
      by_cases hxp : x < p
      · have HS : Hid (goodB p (L.take (k + 1)) = true) := Lib.hid (by rw [hs]; simpa using hxp)
        have t1 : decide (p ≤ x) = false := by simp; omega
        clear hs hno
        go_wp2
        go_roundw
        case rel => exact ⟨k + 1, by go_num, by omega, HS, by trivial⟩
        case measure => simp [intOf]; omega
      · have HS : Hid (goodB p L = false) := Lib.hid (hno hxp)
        have t1 : decide (p ≤ x) = true := by simp; omega
        clear hs hno
        go_wp2
        go_ret
        exact ⟨by rw [HS.out]; first | rfl | simp, rfl⟩
    · obtain rfl : k = L.length := by omega
      have hz := hg.out
      rw [List.take_length] at hz
      have HZ := Lib.hid hz
      clear hz hg
      go_wp2
      go_ret
      exact ⟨by rw [HZ.out]; first | rfl | simp, rfl⟩
end Go.Proofs.YtgdadkkiefkimaaGreat
