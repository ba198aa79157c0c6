/- proof.full. -/
import Derived.Test.YtgdadkkiefkimaaEnt
import Derived.Deep.DeepCutAuto
import Derived.Deep.CutBlock
namespace Go.Proofs.Ytgdadkkiefkimaa
open Go.RowKit

theorem lft_one {m a : Int} (hm : 1 < m) (ho : m % 2 = 1) : lft m a = lft m 1 ↔ a % m = 1 := by
  constructor
  · intro h
    have h1 := lft_mul (a := a) (y := 1) hm ho
    rw [h, lft_mul hm ho, Int.mul_one, Int.mul_one] at h1
    rw [← h1, Int.emod_eq_of_lt (by omega) hm]
  · intro h
    exact lft_congr (by rw [h, Int.emod_eq_of_lt (by omega) hm])

/-- P - 1 is the least power of G that is 1. -/
structure FullP (e : Ent) : Prop where
  one : e.g ^ (e.p - 1).toNat % e.p = 1
  no : ∀ x ∈ e.fs, e.g ^ ((e.p - 1) / x.1).toNat % e.p ≠ 1

set_option maxHeartbeats 2000000 in
set_option maxRecDepth 100000 in
theorem full_any (AF : Option Addr) (cF : Nat) (e : Ent) (w : World) (hE : EntOk e) (hp3 : 3 ≤ e.p) (hpm : e.p < 9223372036854775808) (hpo : e.p % 2 = 1) (hq2 : ∀ x ∈ e.fs, 2 ≤ x.1) (hF : RdPI w w.heap.size AF e.fs) :
    Calls Try.prog 58 #[.agg #[.int .u64 e.p, .int .u64 e.g, .slice AF e.fs.length cF]] w fun r w' => ∃ b, r = .returned (.bool b) ∧ (b = true ↔ FullP e) ∧ Below w.heap.size w w' := by
  have hg0 := hE.g0
  have hg1 := hE.g1
  have hfl := hE.len
  have hB0 := (Below.refl w.heap.size w).alloc (Nat.le_refl _) (.cells #[.int .u64 e.p, .int .u64 e.g, .slice AF e.fs.length cF] 71)
  have HO := Lib.hid hpo
  clear hpo
  go_enter Try.func58, Try.ntmps58
  go_wp2_with fail
  refine (new_any e.p _ hp3 hpm HO.out).mono ?_
  rintro r w1 ⟨cx, t, o, s, rfl, hC, hcx, hB1⟩
  have k0 : (w.alloc (.cells #[.int .u64 e.p, .int .u64 e.g, .slice AF e.fs.length cF] 71)).cell? ⟨w.heap.size, 0, none⟩ = some (.int .u64 e.p) := World.cell?_alloc_at _ _ _ _ rfl
  have k1 : (w.alloc (.cells #[.int .u64 e.p, .int .u64 e.g, .slice AF e.fs.length cF] 71)).cell? ⟨w.heap.size, 1, none⟩ = some (.int .u64 e.g) := World.cell?_alloc_at _ _ _ _ rfl
  have k2 : (w.alloc (.cells #[.int .u64 e.p, .int .u64 e.g, .slice AF e.fs.length cF] 71)).cell? ⟨w.heap.size, 2, none⟩ = some (.slice AF e.fs.length cF) := World.cell?_alloc_at _ _ _ _ rfl
  have hs0 : w.heap.size + 1 ≤ (w.alloc (.cells #[.int .u64 e.p, .int .u64 e.g, .slice AF e.fs.length cF] 71)).heap.size := by simp
  have hs1 := hB1.size
  have k0 := cell_keep hB1 (by omega) k0
  have k1 := cell_keep hB1 (by omega) k1
  have k2 := cell_keep hB1 (by omega) k2
  have hB : Below w.heap.size w w1 := hB0.trans (hB1.mono (by omega))
  have hF1 := hF.below hB
  have hcl := hC.lt
  have hsz : w.heap.size + 1 ≤ w1.heap.size := by omega
  clear hB0 hB1 hF hs0 hs1 hcx
  go_wp2_with fail
  refine (in_any hC e.g hg0 hg1).mono ?_
  rintro r w2 ⟨rfl, n1, rfl⟩
  obtain ⟨L, hL⟩ : ∃ L, L = lft e.p e.g := ⟨_, rfl⟩
  rw [← hL]
  have HL := Lib.hid hL
  clear hL
  go_wp2_with fail
  rw [HL.out]
  refine (mpow_any (hC.drewN n1) e.g (e.p - 1) (by omega) (by omega)).mono ?_
  rintro r w2 ⟨rfl, n2, rfl⟩
  rw [← HL.out]
  obtain ⟨y, hy⟩ : ∃ y, y = lft e.p (e.g ^ (e.p - 1).toNat) := ⟨_, rfl⟩
  rw [← hy]
  have HY := Lib.hid hy
  clear hy
  go_wp2_with fail
  refine (one_any (hC.drewN _)).mono ?_
  rintro r w2 ⟨rfl, n3, rfl⟩
  obtain ⟨u, hu⟩ : ∃ u, u = lft e.p 1 := ⟨_, rfl⟩
  rw [← hu]
  have HU := Lib.hid hu
  clear hu
  by_cases h1 : e.g ^ (e.p - 1).toNat % e.p = 1
  · have t1 : (y != u) = false := by rw [HY.out, HU.out, (lft_one (by omega) HO.out).2 h1]; simp
    have H1 := Lib.hid h1
    clear h1
    go_wp2
    go_loopw [30] (fun I wr => ∃ k : Nat, I = .int .i64 k ∧ k ≤ e.fs.length ∧ Hid (∀ x ∈ e.fs.take k, e.g ^ ((e.p - 1) / x.1).toNat % e.p ≠ 1) ∧ Below w1.heap.size w1 wr) (fun I _ => e.fs.length - (intOf I).toNat)
    case atStart => exact ⟨0, rfl, by omega, Lib.hid (by simp), by first | exact below_drewN (Below.refl _ _) _ | exact below_drewN (below_drewN (Below.refl _ _) _) _⟩
    case round =>
      clear t1
      obtain ⟨k, rfl, hk, hno, hBr⟩ := hrel
      have hCr := hC.below hBr hcl
      have j0 := cell_keep hBr (by omega) k0
      have hlt2 : w.heap.size < wr.heap.size := by have := hBr.size; omega
      have j0x : (wr.alloc (.cells #[.int .u64 (e.fs.getD k (0, 0)).1, .int .i64 (e.fs.getD k (0, 0)).2] 55)).cell? ⟨w.heap.size, 0, none⟩ = some (.int .u64 e.p) := (World.cell?_alloc_past _ _ _ hlt2).trans j0
      have hF2 := (hF1.mono (show w.heap.size ≤ w1.heap.size by omega)).below hBr
      by_cases hlt : k < e.fs.length
      · obtain ⟨b, o', rfl, hb, hc⟩ := hF2 (by omega)
        have d0 := (hc k hlt).1
        have d1 := (hc k hlt).2
        obtain ⟨x, hx⟩ : ∃ x, x = e.fs.getD k (0, 0) := ⟨_, rfl⟩
        rw [← hx] at d0 d1 j0x
        have hxm : x ∈ e.fs := by rw [hx, List.getD_eq_getElem?_getD, List.getElem?_eq_getElem hlt]; exact List.getElem_mem hlt
        have hx2 := hq2 x hxm
        have htk : Hid (e.fs.take (k + 1) = e.fs.take k ++ [x]) := Lib.hid (by
          rw [List.take_succ_eq_append_getElem hlt, hx, List.getD_eq_getElem?_getD, List.getElem?_eq_getElem hlt]; rfl)
        have hd0 : 0 ≤ (e.p - 1) / x.1 := Int.ediv_nonneg (by omega) (by omega)
        have hd1 : (e.p - 1) / x.1 ≤ e.p - 1 := Int.ediv_le_self _ (by omega)
        have hz : (x.1 == 0) = false := beq_eq_false_iff_ne.2 (by omega)
        have hBx := hBr.alloc hBr.size (.cells #[.int .u64 x.1, .int .i64 x.2] 55)
        have hCx := hC.below hBx hcl
        clear hc hF2 hF1 hx
        go_wp2_with fail
        rw [HL.out]
        refine (mpow_any hCx e.g ((e.p - 1) / x.1) hd0 (by omega)).mono ?_
        rintro r w3 ⟨rfl, n4, rfl⟩
        rw [← HL.out]
        obtain ⟨v, hv⟩ : ∃ v, v = lft e.p (e.g ^ ((e.p - 1) / x.1).toNat) := ⟨_, rfl⟩
        rw [← hv]
        have HV := Lib.hid hv
        clear hv
        go_wp2_with fail
        refine (one_any (hCx.drewN _)).mono ?_
        rintro r w3 ⟨rfl, n5, rfl⟩
        rw [← HU.out]
        by_cases h2 : e.g ^ ((e.p - 1) / x.1).toNat % e.p = 1
        · have t2 : (v == u) = true := by rw [HV.out, HU.out, (lft_one (by omega) HO.out).2 h2]; simp
          have hnf : Hid (¬ FullP e) := Lib.hid (fun h => h.no x hxm h2)
          clear h2
          go_wp2
          go_ret
          refine ⟨false, rfl, by simp [hnf.out], hB.trans (Below.mono ?_ (show w.heap.size ≤ w1.heap.size by omega))⟩
          first | exact below_drewN hBx _ | exact below_drewN (below_drewN hBx _) _
        · have t2 : (v == u) = false := by
            rw [beq_eq_false_iff_ne, HV.out, HU.out]; exact fun h => h2 ((lft_one (by omega) HO.out).1 h)
          have hn2 : Hid (∀ z ∈ e.fs.take (k + 1), e.g ^ ((e.p - 1) / z.1).toNat % e.p ≠ 1) := Lib.hid (by
            rw [htk.out]
            intro z hz
            rcases List.mem_append.1 hz with hz | hz
            · exact hno.out z hz
            · simp only [List.mem_singleton] at hz; subst hz; exact h2)
          clear h2
          go_wp2
          go_roundw
          case rel => exact ⟨k + 1, by go_num, by omega, hn2, by first | exact below_drewN hBx _ | exact below_drewN (below_drewN hBx _) _⟩
          case measure => simp [intOf]; omega
      · obtain rfl : k = e.fs.length := by omega
        have hall : Hid (FullP e) := Lib.hid ⟨H1.out, by have := hno.out; rw [List.take_length] at this; exact this⟩
        go_wp2
        go_ret
        exact ⟨true, rfl, by simp [hall.out], hB.trans (hBr.mono (by omega))⟩
  · have t1 : (y != u) = true := by
      rw [bne_iff_ne, HY.out, HU.out]; exact fun h => h1 ((lft_one (by omega) HO.out).1 h)
    have hno : Hid (¬ FullP e) := Lib.hid (fun h => h1 h.one)
    clear h1
    go_wp2
    go_ret
    exact ⟨false, rfl, by simp [hno.out], below_drewN hB _⟩
end Go.Proofs.Ytgdadkkiefkimaa
