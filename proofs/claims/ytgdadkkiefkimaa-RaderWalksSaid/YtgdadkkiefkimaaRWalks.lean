/- The law RaderWalks. -/
import Derived.Test.YtgdadkkiefkimaaFits16
namespace Go.Proofs.Ytgdadkkiefkimaa
open Go.RowKit
open Alg

/-- Both walks, and whether they are the same. -/
theorem MadeR.below {v : Value} {p g : Int} {w w' : World} (h : MadeR v p g w) (hb : Below w.heap.size w w') : MadeR v p g w' := by
  rcases h with h | ⟨a, b, c⟩
  · exact .inl h
  · exact .inr ⟨a, b, (c.below hb).mono hb.size⟩
theorem Fd.pm {w : World} {B : Nat} {v : Value} {p g : Int} (h : Fd w B v p g) : p < 9223372036854775808 := by
  obtain ⟨b, c, t, o, s, sv, rfl, hb, hc, hF⟩ := h
  exact hF.ctx.m2
set_option maxHeartbeats 4000000 in
set_option maxRecDepth 100000 in
theorem raderWalks_walk (A : Option Addr) (c : Nat) (kind kk p n : Int) (es : List Ent) (w : World) (h0 : 0 ≤ p) (h1 : p ≤ 18446744073709551615) (n0 : -9223372036854775808 ≤ n) (n1 : n ≤ 9223372036854775807)
    (hlm : es.length ≤ 140737488351232) (hlc : es.length ≤ c) (hR : RdE w w.heap.size A es) (hE : ∀ e ∈ es, EntOk e) :
    Calls Try.prog 4 #[.agg #[.int .i64 kind, .int .i64 kk, .int .u64 p, .slice A es.length c], .int .i64 n] w fun e w' => e = .returned (.bool true) ∧ Below w.heap.size w w' := by
  have HE := Lib.hid hE
  have hB0 := (Below.refl w.heap.size w).alloc (Nat.le_refl _) (.cells #[.int .i64 kind, .int .i64 kk, .int .u64 p, .slice A es.length c] 31)
  clear hE
  go_enter Try.func4, Try.ntmps4
  go_wp2_with fail
  refine (alive_any _).mono ?_
  have b0 : (w.alloc (.cells #[.int .i64 kind, .int .i64 kk, .int .u64 p, .slice A es.length c] 31)).cell? ⟨w.heap.size, 0, none⟩ = some (.int .i64 kind) := World.cell?_alloc_at _ _ _ _ rfl
  have b1 : (w.alloc (.cells #[.int .i64 kind, .int .i64 kk, .int .u64 p, .slice A es.length c] 31)).cell? ⟨w.heap.size, 1, none⟩ = some (.int .i64 kk) := World.cell?_alloc_at _ _ _ _ rfl
  have b2 : (w.alloc (.cells #[.int .i64 kind, .int .i64 kk, .int .u64 p, .slice A es.length c] 31)).cell? ⟨w.heap.size, 2, none⟩ = some (.int .u64 p) := World.cell?_alloc_at _ _ _ _ rfl
  have b3 : (w.alloc (.cells #[.int .i64 kind, .int .i64 kk, .int .u64 p, .slice A es.length c] 31)).cell? ⟨w.heap.size, 3, none⟩ = some (.slice A es.length c) := World.cell?_alloc_at _ _ _ _ rfl
  have hs1 : w.heap.size + 1 ≤ (w.alloc (.cells #[.int .i64 kind, .int .i64 kk, .int .u64 p, .slice A es.length c] 31)).heap.size := by simp
  generalize w.alloc (.cells #[.int .i64 kind, .int .i64 kk, .int .u64 p, .slice A es.length c] 31) = w1 at *
  rintro r w2 ⟨rfl, hB2⟩
  have d0 := cell_keep hB2 (by omega) b0
  have d1 := cell_keep hB2 (by omega) b1
  have d2 := cell_keep hB2 (by omega) b2
  have d3 := cell_keep hB2 (by omega) b3
  have hBw := hB0.trans (hB2.mono (show w.heap.size ≤ w1.heap.size by omega))
  have hR2 := (hR.below hBw).mono hBw.size
  have hs2 := hB2.size
  clear b0 b1 b2 b3 hR hB0 hB2
  go_wp2_with fail
  refine (made_any A c kind kk p es w2 h0 h1 hlm hlc hR2 HE.out).mono ?_
  rintro r w3 ⟨v, p', g', rfl, hM, hB3⟩
  have hBx := hBw.trans (hB3.mono (show w.heap.size ≤ w2.heap.size by omega))
  have HM := Lib.hid hM
  have HBx := Lib.hid hBx
  clear d0 d1 d2 d3 hR2 hBw hB3 hM hBx hs1 hs2
  go_upto_region 4 with fail
  go_cut [36] (fun v wx => v = .bool false ∧ Below w3.heap.size w3 wx)
  case first =>
    by_cases h : 3 ≤ n ∧ n ≤ 1024 ∧ isP n.toNat = true
    · obtain ⟨m3, m1, hpr⟩ := h
      obtain ⟨m, rfl⟩ := Int.eq_ofNat_of_zero_le (show 0 ≤ n by omega)
      have hp : Prime m := isP_true.1 (by simpa using hpr)
      have HP := Lib.hid hp
      have tt : (rpad m != rpad m) = false := by simp
      have hl : ∀ g b, (wk m g b).length = m - 1 := fun g b => wk_length m g b
      clear hp hpr
      go_wp2_with fail
      refine (rpad_any _ _ n0 n1).mono ?_
      rintro e w4 ⟨rfl, hB4⟩
      go_wp2_with fail
      refine (rpadr_any _ _ n0 n1).mono ?_
      rintro e w5 ⟨rfl, rfl⟩
      go_wp2_with fail
      refine (walk_yes m false _ (by omega) (by omega) HP.out).mono ?_
      rintro e w5 ⟨v1, g1, rfl, hg1, hown1, hB5⟩
      obtain ⟨A1, c1, rfl, hR1⟩ := RdI.of_own (xs := wk m g1 false) (by rw [hl]; exact hown1)
      rw [hl]
      clear hown1
      go_wp2_with fail
      refine (rwalk_yes m false _ (by omega) (by omega) HP.out).mono ?_
      rintro e w6 ⟨v2, g2, rfl, hg2, hown2, hB6⟩
      obtain rfl : g2 = g1 := hg2.unique hg1
      obtain ⟨A2, c2, rfl, hR2⟩ := RdI.of_own (xs := wk m g2 false) (by rw [hl]; exact hown2)
      rw [hl]
      have hR1' := (hR1.below hB6).mono hB6.size
      have hi1 := ints_any A1 A2 c1 c2 _ (wk m g2 false) (wk m g2 false) w6 (by rw [hl]; omega) (by rw [hl]; omega) hR1' hR2
      rw [hl] at hi1
      simp only [decide_true] at hi1
      have hB7 := hB4.trans ((hB5.trans (hB6.mono hB5.size)).mono hB4.size)
      clear hown2 hR1 hR1' hR2 hg1 hg2 hB4 hB5 hB6
      go_wp2_with fail
      refine hi1.mono ?_
      rintro e w7 ⟨rfl, hB8⟩
      have hB9 := hB7.trans (hB8.mono hB7.size)
      clear hi1 hB7 hB8
      go_wp2_with fail
      refine (walk_yes m true _ (by omega) (by omega) HP.out).mono ?_
      rintro e w8 ⟨v1, g1, rfl, hg1, hown1, hB5⟩
      obtain ⟨A1, c1, rfl, hR1⟩ := RdI.of_own (xs := wk m g1 true) (by rw [hl]; exact hown1)
      rw [hl]
      clear hown1
      go_wp2_with fail
      refine (rwalk_yes m true _ (by omega) (by omega) HP.out).mono ?_
      rintro e w9 ⟨v2, g3, rfl, hg2, hown2, hB6⟩
      obtain rfl : g3 = g1 := hg2.unique hg1
      obtain ⟨A2, c2, rfl, hR2⟩ := RdI.of_own (xs := wk m g3 true) (by rw [hl]; exact hown2)
      rw [hl]
      have hR1' := (hR1.below hB6).mono hB6.size
      have hi1 := ints_any A1 A2 c1 c2 _ (wk m g3 true) (wk m g3 true) w9 (by rw [hl]; omega) (by rw [hl]; omega) hR1' hR2
      rw [hl] at hi1
      simp only [decide_true] at hi1
      have hB7 := hB9.trans ((hB5.trans (hB6.mono hB5.size)).mono hB9.size)
      clear hown2 hR1 hR1' hR2 hg1 hg2 hB9 hB5 hB6
      go_wp2_with fail
      refine hi1.mono ?_
      rintro e w10 ⟨rfl, hB8⟩
      have hB9 := hB7.trans (hB8.mono hB7.size)
      clear hi1 hB7 hB8
      go_wp2
      go_meet
      exact ⟨rfl, hB9⟩
    · have hr : Hid (rpad n = 0) := Lib.hid (by unfold rpad; rw [if_neg h])
      clear h
      go_wp2_with fail
      refine (rpad_any _ _ n0 n1).mono ?_
      rintro e w4 ⟨rfl, hB4⟩
      go_wp2_with fail
      refine (rpadr_any _ _ n0 n1).mono ?_
      rintro e w5 ⟨rfl, rfl⟩
      have tt : (rpad n != rpad n) = false := by simp
      go_wp2_with fail
      refine (walk_no n false _ n0 n1 hr.out).mono ?_
      rintro e w5 ⟨rfl, hB5⟩
      go_wp2_with fail
      refine (rwalk_no n false _ n0 n1 hr.out).mono ?_
      rintro e w6 ⟨rfl, rfl⟩
      have hi1 := ints_any none none 0 0 w5.heap.size [] [] w5 (by simp) (by simp) (fun h => by simp at h) (fun h => by simp at h)
      simp only [decide_true] at hi1
      have hB7 := hB4.trans (hB5.mono hB4.size)
      clear hB4 hB5
      go_wp2_with fail
      refine hi1.mono ?_
      rintro e w7 ⟨rfl, hB8⟩
      have hB9 := hB7.trans (hB8.mono hB7.size)
      clear hi1 hB7 hB8
      go_wp2_with fail
      refine (walk_no n true _ n0 n1 hr.out).mono ?_
      rintro e w8 ⟨rfl, hB5⟩
      go_wp2_with fail
      refine (rwalk_no n true _ n0 n1 hr.out).mono ?_
      rintro e w9 ⟨rfl, rfl⟩
      have hi1 := ints_any none none 0 0 w8.heap.size [] [] w8 (by simp) (by simp) (fun h => by simp at h) (fun h => by simp at h)
      simp only [decide_true] at hi1
      have hB7 := hB9.trans (hB5.mono hB9.size)
      clear hB9 hB5
      go_wp2_with fail
      refine hi1.mono ?_
      rintro e w10 ⟨rfl, hB8⟩
      have hB9 := hB7.trans (hB8.mono hB7.size)
      clear hi1 hB7 hB8
      go_wp2
      go_meet
      exact ⟨rfl, hB9⟩
  case rest =>
    obtain ⟨rfl, hBc⟩ := hcut
    have HM2 := Lib.hid (HM.out.below hBc)
    have hBy : Below w.heap.size w wc := HBx.out.trans (hBc.mono HBx.out.size)
    clear HM HBx hBc
    rcases HM2.out with ⟨rfl, rfl, rfl⟩ | ⟨p3, _, hFd⟩
    · clear HM2
      go_wp2_with fail
      refine (fits_nil n _ n0 n1).mono ?_
      rintro e w4 ⟨rfl, hB4⟩
      go_wp2
      go_ret
      exact ⟨rfl, hBy.trans (hB4.mono hBy.size)⟩
    · have pm := hFd.pm
      have tp : (p' == 0) = false := by simp; omega
      clear HM2
      go_wp2_with fail
      refine (fits_fd hFd n n0 n1).mono ?_
      rintro e w4 ⟨rfl, hB4⟩
      go_wp2_with fail
      refine (rfits_any p' n _ p3 pm n0 n1).mono ?_
      rintro e w5 ⟨rfl, rfl⟩
      obtain ⟨bb, hbb⟩ : ∃ bb, bb = (decide (0 < rpad n) && ((p' - 1) % rpad n == 0)) := ⟨_, rfl⟩
      rw [← hbb]
      have HBB := Lib.hid hbb
      clear hbb
      go_wp2
      go_ret
      exact ⟨by first | rfl | simp, hBy.trans (hB4.mono hBy.size)⟩
end Go.Proofs.Ytgdadkkiefkimaa
