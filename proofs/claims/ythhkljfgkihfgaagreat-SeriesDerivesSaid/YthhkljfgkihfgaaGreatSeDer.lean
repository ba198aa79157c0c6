/- The law SeriesDerives. -/
import Derived.Test.YthhkljfgkihfgaaGreatAl25
import Derived.Test.YthhkljfgkihfgaaGreatRef25
import Derived.Test.YthhkljfgkihfgaaGreatMs25
import Derived.Test.YthhkljfgkihfgaaGreatDerM
set_option linter.unusedVariables false
set_option linter.unusedSimpArgs false
set_option linter.unusedSectionVars false
set_option linter.unusedVariables false
set_option linter.unusedSimpArgs false
namespace Go.Proofs.YthhkljfgkihfgaaGreat
open Go.RowKit
open Alg
/-- The greater one, as the machine finds it. -/
def mxI (x y : Int) : Int := if x < y then y else x
@[go_sem ↓] theorem max_two (ats : Array TypeId) (ty : TypeId) (k k' : IntKind) (x y : Int) : Builtin.max_ ats ty #[.int k x, .int k' y] = pure (.int k (mxI x y)) := rfl
set_option maxHeartbeats 16000000 in
set_option maxRecDepth 100000 in
theorem seriesDerives_walk (w : World) (A0 : Option Addr) (c0 : Nat) (kind0 kk0 pp0 : Int) (es0 : List Ent) (A1 : Option Addr) (c1 : Nat) (L1 : List Int) (A2 : Option Addr) (c2 : Nat) (L2 : List Int) (x3 : Int) (hs0 : SrcA w A0 c0 kind0 kk0 pp0 es0) (hl1 : LstA w A1 c1 L1) (hl2 : LstA w A2 c2 L2) (h03 : 0 ≤ x3) (h13 : x3 ≤ 18446744073709551615) :
    Calls Tryz.prog 18 #[.agg #[.int .i64 kind0, .int .i64 kk0, .int .u64 pp0, .slice A0 es0.length c0], .slice A1 L1.length c1, .slice A2 L2.length c2, .int .u64 x3] w fun e w' => e = .returned (.bool true) ∧ Below w.heap.size w w' := by
  have hLl := hl1.hl
  have hKl := hl2.hl
  have HU := Lib.hid hl1.hU
  have HW := Lib.hid hl2.hU
  have HS := Lib.hid hs0
  have hB0 := (Below.refl w.heap.size w).alloc (Nat.le_refl _) (.cells #[.int .i64 kind0, .int .i64 kk0, .int .u64 pp0, .slice A0 es0.length c0] 28)
  have b0 : (w.alloc (.cells #[.int .i64 kind0, .int .i64 kk0, .int .u64 pp0, .slice A0 es0.length c0] 28)).cell? ⟨w.heap.size, 0, none⟩ = some (.int .i64 kind0) := World.cell?_alloc_at _ _ _ _ rfl
  have b1 : (w.alloc (.cells #[.int .i64 kind0, .int .i64 kk0, .int .u64 pp0, .slice A0 es0.length c0] 28)).cell? ⟨w.heap.size, 1, none⟩ = some (.int .i64 kk0) := World.cell?_alloc_at _ _ _ _ rfl
  have b2 : (w.alloc (.cells #[.int .i64 kind0, .int .i64 kk0, .int .u64 pp0, .slice A0 es0.length c0] 28)).cell? ⟨w.heap.size, 2, none⟩ = some (.int .u64 pp0) := World.cell?_alloc_at _ _ _ _ rfl
  have b3 : (w.alloc (.cells #[.int .i64 kind0, .int .i64 kk0, .int .u64 pp0, .slice A0 es0.length c0] 28)).cell? ⟨w.heap.size, 3, none⟩ = some (.slice A0 es0.length c0) := World.cell?_alloc_at _ _ _ _ rfl
  have hs1 : w.heap.size + 1 ≤ (w.alloc (.cells #[.int .i64 kind0, .int .i64 kk0, .int .u64 pp0, .slice A0 es0.length c0] 28)).heap.size := by simp
  have hAl := Lib.hid (alive25_any (w.alloc (.cells #[.int .i64 kind0, .int .i64 kk0, .int .u64 pp0, .slice A0 es0.length c0] 28)))
  have HL0 := Lib.hid hl1
  have HK0 := Lib.hid hl2
  clear hs0 hl1 hl2
  go_enter Tryz.func18, Tryz.ntmps18
  go_wp2_with fail
  generalize w.alloc (.cells #[.int .i64 kind0, .int .i64 kk0, .int .u64 pp0, .slice A0 es0.length c0] 28) = w1 at *
  refine hAl.out.mono ?_
  rintro r w2 ⟨rfl, hB2⟩
  have d0 := cell_keep hB2 (by omega) b0
  have d1 := cell_keep hB2 (by omega) b1
  have d2 := cell_keep hB2 (by omega) b2
  have d3 := cell_keep hB2 (by omega) b3
  have hBw := hB0.trans (hB2.mono (show w.heap.size ≤ w1.heap.size by omega))
  clear b0 b1 b2 b3 hB0 hB2 hAl
  by_cases cc1 : 30 < L1.length
  · have t1 : decide ((30 : Int) < (L1.length : Int)) = true := decide_eq_true (by omega)
    go_wp2
    go_ret
    exact ⟨by first | rfl | simp, hBw⟩
  have t1 : decide ((30 : Int) < (L1.length : Int)) = false := decide_eq_false (by omega)
  by_cases cc2 : 30 < L2.length
  · have t2 : decide ((30 : Int) < (L2.length : Int)) = true := decide_eq_true (by omega)
    go_wp2
    go_ret
    exact ⟨by first | rfl | simp, hBw⟩
  have t2 : decide ((30 : Int) < (L2.length : Int)) = false := decide_eq_false (by omega)
  have hla : L1.length ≤ 30 := by omega
  have hlb : L2.length ≤ 30 := by omega
  go_wp2_with fail
  refine (made_src (HS.out.below hBw)).mono ?_
  rintro r w3 ⟨v, p', g', rfl, hM, hB3⟩
  have hBx := hBw.trans (hB3.mono hBw.size)
  have HL4 := Lib.hid (HL0.out.below hBx)
  have HK4 := Lib.hid (HK0.out.below hBx)
  have HM := Lib.hid hM
  have HBx := Lib.hid hBx
  have emx : mxI ((L1.length : Int) - 1) 0 = ((L1.length - 1 : Nat) : Int) := by unfold mxI; split <;> omega
  obtain ⟨a1, ha1⟩ : ∃ a, a = L1.length - 1 := ⟨_, rfl⟩
  rw [← ha1] at emx
  have tne : ((a1 : Int) != (a1 : Int)) = false := by simp
  have ha30 : a1 ≤ 30 := by omega
  clear d0 d1 d2 d3 hBw hM hs1 hB3 HL0 HK0 hBx cc1 cc2
  rcases HM.out with ⟨rfl, rfl, rfl⟩ | ⟨p3, hC, hF⟩
  · clear HM
    have hD := gder_nil A1 c1 L1 w3 (by omega) HL4.out.hR
    rw [← ha1] at hD
    have HD := Lib.hid hD
    clear hD ha1
    go_wp2_with fail
    refine HD.out.mono ?_
    rintro r w4 ⟨V4, rfl, hO4, hB4⟩
    obtain ⟨A4, c4, rfl, hR4⟩ := hO4.rd
    have HB4 := Lib.hid (HBx.out.trans (hB4.mono HBx.out.size))
    have HA4 := Lib.hid (gat_nil A1 c1 L1 x3 w4 (by omega) (HL4.out.below hB4).hR)
    clear hO4 hB4 hR4 HD HL4 HK4 HBx
    go_wp2_with fail
    refine HA4.out.mono ?_
    rintro r w5 ⟨rfl, q, rfl⟩
    go_wp2
    go_ret
    exact ⟨by first | rfl | simp, below_drewN HB4.out _⟩
  · obtain ⟨q, rfl⟩ := Int.eq_ofNat_of_zero_le (show 0 ≤ p' by omega)
    have pm := hF.pmx
    haveI : NeZero q := ⟨by omega⟩
    obtain ⟨hp, hord⟩ := hC.nat
    have hg := hC.gr
    have HO : Hid (Ord (zt q g') (q - 1)) := Lib.hid hord
    have HP := Lib.hid hp
    have HF := Lib.hid hF
    have tp : ((q : Int) == 0) = false := by simp; omega
    have HPM := Lib.hid (And.intro p3 pm)
    have hg0 : 0 ≤ g' := by omega
    have hqg : Hid (g' < (q : Int)) := Lib.hid hg.2
    clear HM hC hp hord hg
    have hD := gder_fd HF.out A1 c1 L1 (by omega) HU.out HL4.out.hR
    rw [← ha1] at hD
    have HD := Lib.hid hD
    have HA1 := Lib.hid ha1
    clear hD ha1
    go_wp2_with fail
    refine HD.out.mono ?_
    rintro r w4 ⟨V4, rfl, hO4, hB4⟩
    obtain ⟨A4, c4, rfl, hR4⟩ := hO4.rd
    have HR4 := Lib.hid hR4
    have HL5 := Lib.hid (HL4.out.below hB4)
    have HK5 := Lib.hid (HK4.out.below hB4)
    have HF5 := Lib.hid ((HF.out.below hB4).mono hB4.size)
    have HB4 := Lib.hid (HBx.out.trans (hB4.mono HBx.out.size))
    clear hO4 hB4 hR4 HD HL4 HK4 HBx HF
    go_wp2
    go_loopw [62] (fun I wr => ∃ (i : Nat) (z : Nat), I = .int .i64 i ∧ i ≤ a1 ∧ wr = w4.drewN z) (fun I _ => a1 - (intOf I).toNat)
    case atStart => exact ⟨0, 0, rfl, by omega, rfl⟩
    case round =>
      obtain ⟨i, z, rfl, hi, rfl⟩ := hrel
      by_cases hlt : i < a1
      · obtain ⟨b4, o4, rfl, hb4, hc4⟩ := HR4.out (by rw [lst_length]; omega)
        have d := hc4 i (by rw [lst_length]; exact hlt)
        rw [lst_get hlt] at d
        have d' : (w4.drewN z).cell? ⟨b4, o4 + i, none⟩ = some (.int .u64 ((derL (rz q L1) i).val : Int)) := d
        have hia : i + 1 < L1.length := by have := HA1.out; omega
        obtain ⟨b5, o5, rfl, hb5, hc5⟩ := HL5.out.hR (by omega)
        have e := hc5 (i + 1) hia
        have e' : (w4.drewN z).cell? ⟨b5, o5 + (i + 1), none⟩ = some (.int .u64 (L1.getD (i + 1) 0)) := e
        have hu := HU.out.at hia
        have HMu : Hid (Calls Tryz.prog 67 #[.int .u64 ((i : Int) + 1), .int .u64 (L1.getD (i + 1) 0), .int .u64 q] (w4.drewN z) fun r w' => r = .returned (.int .u64 ((derL (rz q L1) i).val : Int)) ∧ ∃ k, w' = (w4.drewN z).drewN k) := Lib.hid (by
          have h1 := r2mul_any ((i : Int) + 1) (L1.getD (i + 1) 0) q (w4.drewN z) (by omega) (by omega) hu.1 hu.2 (by omega) (by have := HPM.out.2; omega)
          rw [ev_mul] at h1; exact h1)
        obtain ⟨y, hy⟩ : ∃ y, y = ((derL (rz q L1) i).val : Int) := ⟨_, rfl⟩
        obtain ⟨x, hx⟩ : ∃ x, x = L1.getD (i + 1) 0 := ⟨_, rfl⟩
        rw [← hy] at d' HMu
        rw [← hx] at e' HMu
        have t : (y != y) = false := by simp
        have i3 : (i : Int) + 1 < (L1.length : Int) := by omega
        clear d e hu hy hx hc4 hc5
        go_wp2_with fail
        refine HMu.out.mono ?_
        rintro r w5 ⟨rfl, k, rfl⟩
        go_wp2
        go_roundw
        case rel => exact ⟨i + 1, _, by go_num, by omega, rfl⟩
        case measure => simp [intOf]; omega
      · have tj : decide ((i : Int) < (a1 : Int)) = false := decide_eq_false (by omega)
        go_wp2_with fail
        have hB0 := below_drewN (Below.refl w4.heap.size w4) z
        have HAt : Hid (∀ (A : Option Addr) (c : Nat) (L : List Int) wz, Below w4.heap.size w4 wz → L.length ≤ 4096 → U64s L → RdI wz wz.heap.size .u64 A L → Calls Tryz.prog 66 #[v, .slice A L.length c, .int .u64 x3] wz fun r w' => r = .returned (.int .u64 ((ev (L.map (zt q)) (zt q x3)).val : Int)) ∧ ∃ n, w' = wz.drewN n) := Lib.hid (fun A c L wz hz hl hUL hR =>
          gat_fd ((HF5.out.below hz).mono hz.size) A c L x3 h03 h13 (by omega) hUL hR)
        have HL6 := Lib.hid (HL5.out.below hB0)
        have HK6 := Lib.hid (HK5.out.below hB0)
        have HF6 := Lib.hid ((HF5.out.below hB0).mono hB0.size)
        have HR6 := Lib.hid ((HR4.out.below hB0).mono hB0.size)
        have HB6 := Lib.hid (below_drewN HB4.out z)
        have hAz : ∀ (A : Option Addr) (c : Nat) (L : List Int) wz, Below (w4.drewN z).heap.size (w4.drewN z) wz → L.length ≤ 4096 → U64s L → RdI wz wz.heap.size .u64 A L → Calls Tryz.prog 66 #[v, .slice A L.length c, .int .u64 x3] wz fun r w' => r = .returned (.int .u64 ((ev (L.map (zt q)) (zt q x3)).val : Int)) ∧ ∃ n, w' = wz.drewN n := fun A c L wz hz => HAt.out A c L wz (hB0.trans hz)
        have HAz := Lib.hid hAz
        clear HL5 HK5 HF5 HR4 HB4 HAt hAz hB0 hlt hi
        generalize w4.drewN z = w5 at *
        have HAa := Lib.hid (HAz.out A1 c1 L1 w5 (Below.refl _ _) (by omega) HU.out HL6.out.hR)
        have HAr := Lib.hid (fun k => r25at_any (p := q) (w5.drewN k) A1 c1 L1 x3 HPM.out.1 HPM.out.2 h03 h13 (by omega) HU.out (HL6.out.below (below_drewN (Below.refl _ _) k)).hR)
        obtain ⟨ea, hea⟩ : ∃ ea, ea = ev (L1.map (zt q)) (zt q x3) := ⟨_, rfl⟩
        obtain ⟨eb, heb⟩ : ∃ eb, eb = ev (L2.map (zt q)) (zt q x3) := ⟨_, rfl⟩
        rw [← hea] at HAa HAr
        have HEA := Lib.hid hea
        have HEB := Lib.hid heb
        have tea : (((ea.val : Nat) : Int) != ((ea.val : Nat) : Int)) = false := by simp
        clear hea heb
        refine HAa.out.mono ?_
        rintro r w6 ⟨rfl, k6, rfl⟩
        go_wp2_with fail
        refine (HAr.out _).mono ?_
        rintro r w7 ⟨rfl, k7, rfl⟩
        rw [World.drewN_drewN]
        have hB7 := below_drewN (Below.refl w5.heap.size w5) (k6 + k7)
        have HL7 := Lib.hid (HL6.out.below hB7)
        have HK7 := Lib.hid (HK6.out.below hB7)
        have HF7 := Lib.hid ((HF6.out.below hB7).mono hB7.size)
        have HR7 := Lib.hid ((HR6.out.below hB7).mono hB7.size)
        have HB7 := Lib.hid (below_drewN HB6.out (k6 + k7))
        have hAz : ∀ (A : Option Addr) (c : Nat) (L : List Int) wz, Below (w5.drewN (k6 + k7)).heap.size (w5.drewN (k6 + k7)) wz → L.length ≤ 4096 → U64s L → RdI wz wz.heap.size .u64 A L → Calls Tryz.prog 66 #[v, .slice A L.length c, .int .u64 x3] wz fun r w' => r = .returned (.int .u64 ((ev (L.map (zt q)) (zt q x3)).val : Int)) ∧ ∃ n, w' = wz.drewN n := fun A c L wz hz => HAz.out A c L wz (hB7.trans hz)
        have HAy := Lib.hid hAz
        clear HL6 HK6 HF6 HR6 HB6 HAz hAz hB7 HAa HAr
        generalize w5.drewN (k6 + k7) = w8 at *
        obtain ⟨n, hn⟩ : ∃ n, n = L1.length + L2.length := ⟨_, rfl⟩
        have en : (L1.length : Int) + (L2.length : Int) = (n : Int) := by omega
        have hn60 : n ≤ 60 := by omega
        have HN := Lib.hid hn
        clear hn
        by_cases c0 : n < 1
        · have t3 : decide ((n : Int) < 1) = true := decide_eq_true (by omega)
          go_wp2
          go_ret
          exact ⟨by first | rfl | simp, HB7.out⟩
        have t3 : decide ((n : Int) < 1) = false := decide_eq_false (by omega)
        have n1' : 1 ≤ n := by omega
        have hb := (Below.refl w8.heap.size w8).alloc (Nat.le_refl _) (.cells #[.slice A1 L1.length c1, .slice A2 L2.length c2] 29)
        have hFt := r25fault_any w8.heap.size 2 [(A1, c1, L1), (A2, c2, L2)] q n (w8.alloc (.cells #[.slice A1 L1.length c1, .slice A2 L2.length c2] 29)) HPM.out.1 HPM.out.2 (by omega) (by omega) (by simp) (fun i e he => by
          match i, he with
          | 0, he => cases he; exact ⟨World.cell?_alloc_at _ _ _ _ rfl, hLl, (HL7.out.below hb).hR⟩
          | 1, he => cases he; exact ⟨World.cell?_alloc_at _ _ _ _ rfl, hKl, (HK7.out.below hb).hR⟩
          | i + 2, he => simp at he)
        rw [show flt q n ([(A1, c1, L1), (A2, c2, L2)].map fun e => goodB q e.2.2) = sf2 q n L1 L2 from flt2 _ _ _ _] at hFt
        have HFt : Hid (Calls Tryz.prog 57 #[.int .u64 (q : Int), .slice (some ⟨w8.heap.size, 0, none⟩) 2 2, .int .i64 n] (w8.alloc (.cells #[.slice A1 L1.length c1, .slice A2 L2.length c2] 29)) fun e w' => e = .returned (.int .i64 (sf2 q n L1 L2)) ∧ w8.alloc (.cells #[.slice A1 L1.length c1, .slice A2 L2.length c2] 29) = w') := Lib.hid hFt
        have HL9 := Lib.hid (HL7.out.below hb)
        have HK9 := Lib.hid (HK7.out.below hb)
        have HF9 := Lib.hid ((HF7.out.below hb).mono hb.size)
        have HR9 := Lib.hid ((HR7.out.below hb).mono hb.size)
        have HB9 := Lib.hid (HB7.out.trans (hb.mono HB7.out.size))
        have hAz : ∀ (A : Option Addr) (c : Nat) (L : List Int) wz, Below (w8.alloc (.cells #[.slice A1 L1.length c1, .slice A2 L2.length c2] 29)).heap.size (w8.alloc (.cells #[.slice A1 L1.length c1, .slice A2 L2.length c2] 29)) wz → L.length ≤ 4096 → U64s L → RdI wz wz.heap.size .u64 A L → Calls Tryz.prog 66 #[v, .slice A L.length c, .int .u64 x3] wz fun r w' => r = .returned (.int .u64 ((ev (L.map (zt q)) (zt q x3)).val : Int)) ∧ ∃ n, w' = wz.drewN n := fun A c L wz hz => HAy.out A c L wz (hb.trans (hz.mono hb.size))
        have HAx := Lib.hid hAz
        clear hFt hb HL7 HK7 HF7 HR7 HB7 HAy hAz c0
        go_wp2_with fail
        generalize w8.alloc (.cells #[.slice A1 L1.length c1, .slice A2 L2.length c2] 29) = w9 at *
        by_cases hs : sf2 q n L1 L2 = 0
        · rw [hs] at HFt
          refine HFt.out.mono ?_
          rintro r w9' ⟨rfl, rfl⟩
          have HMl := Lib.hid (gMul_yes HP.out HO.out hg0 hqg.out HF9.out A1 A2 c1 c2 L1 L2 n hLl hKl HU.out HW.out HL9.out.hR HK9.out.hR hs)
          clear hs HFt
          go_wp2_with fail
          refine HMl.out.mono ?_
          rintro r w10 ⟨V10, rfl, hO10, hB10⟩
          obtain ⟨A10, c10, rfl, hR10⟩ := hO10.rd
          have HB10 := Lib.hid hB10
          obtain ⟨C, hC⟩ : ∃ C : Nat → Fin q, C = cv (rz q L1) (rz q L2) := ⟨_, rfl⟩
          have HC := Lib.hid hC
          rw [← hC] at hR10
          have hD := gder_fd ((HF9.out.below hB10).mono hB10.size) A10 c10 (lst n C) (by rw [lst_length]; omega) (lst_u64 HPM.out.2 _ _) hR10
          rw [lst_length, der_lst] at hD
          have HD := Lib.hid hD
          have HR10 := Lib.hid hR10
          clear hO10 hB10 hC hR10 hD HMl
          go_wp2_with fail
          refine HD.out.mono ?_
          rintro r w11 ⟨V11, rfl, hO11, hB11⟩
          obtain ⟨A11, c11, rfl, hR11⟩ := hO11.rd
          have HR11 := Lib.hid hR11
          have HR10 := Lib.hid ((HR10.out.below hB11).mono hB11.size)
          have HB11 := Lib.hid (HB10.out.trans (hB11.mono HB10.out.size))
          have hM1 := r25mul_any (p := q) w11 A4 A2 c4 c2 (lst a1 (derL (rz q L1))) L2 n HPM.out.1 HPM.out.2 (by omega) (by rw [lst_length]; omega) hKl (lst_u64 HPM.out.2 _ _) HW.out ((HR9.out.below HB11.out).mono HB11.out.size) (HK9.out.below HB11.out).hR
          rw [lst_length, rz_pad, HA1.out, der_pad, ← HA1.out] at hM1
          have HM1 := Lib.hid hM1
          clear hO11 hB11 hR11 hM1 HD HB10 HR9
          go_wp2_with fail
          refine HM1.out.mono ?_
          rintro r w12 ⟨V12, rfl, hO12, hB12⟩
          obtain ⟨A12, c12, rfl, hR12⟩ := hO12.rd
          have HR12 := Lib.hid hR12
          have HR11 := Lib.hid ((HR11.out.below hB12).mono hB12.size)
          have HR10 := Lib.hid ((HR10.out.below hB12).mono hB12.size)
          have HB12 := Lib.hid (HB11.out.trans (hB12.mono HB11.out.size))
          have HD2 := Lib.hid (gder_fd ((HF9.out.below HB12.out).mono HB12.out.size) A2 c2 L2 (by omega) HW.out (HK9.out.below HB12.out).hR)
          clear hO12 hB12 hR12 HM1 HB11
          go_wp2_with fail
          refine HD2.out.mono ?_
          rintro r w13 ⟨V13, rfl, hO13, hB13⟩
          obtain ⟨A13, c13, rfl, hR13⟩ := hO13.rd
          have HR12 := Lib.hid ((HR12.out.below hB13).mono hB13.size)
          have HR11 := Lib.hid ((HR11.out.below hB13).mono hB13.size)
          have HR10 := Lib.hid ((HR10.out.below hB13).mono hB13.size)
          have HB13 := Lib.hid (HB12.out.trans (hB13.mono HB12.out.size))
          have hM2 := r25mul_any (p := q) w13 A1 A13 c1 c13 L1 (lst (L2.length - 1) (derL (rz q L2))) n HPM.out.1 HPM.out.2 (by omega) hLl (by rw [lst_length]; omega) HU.out (lst_u64 HPM.out.2 _ _) (HL9.out.below HB13.out).hR hR13
          rw [lst_length, rz_pad, der_pad] at hM2
          have HM2 := Lib.hid hM2
          clear hO13 hB13 hR13 hM2 HD2 HB12
          obtain ⟨b1, hb1⟩ : ∃ b, b = L2.length - 1 := ⟨_, rfl⟩
          rw [← hb1] at HM2 ⊢
          clear hb1
          go_wp2_with fail
          refine HM2.out.mono ?_
          rintro r w14 ⟨V14, rfl, hO14, hB14⟩
          obtain ⟨A14, c14, rfl, hR14⟩ := hO14.rd
          have HR14 := Lib.hid hR14
          have HR12 := Lib.hid ((HR12.out.below hB14).mono hB14.size)
          have HR11 := Lib.hid ((HR11.out.below hB14).mono hB14.size)
          have HR10 := Lib.hid ((HR10.out.below hB14).mono hB14.size)
          have HB14 := Lib.hid (HB13.out.trans (hB14.mono HB13.out.size))
          clear hO14 hB14 hR14 HM2 HB13
          have en1 : (n : Int) - 1 = ((n - 1 : Nat) : Int) := by omega
          obtain ⟨m, hm⟩ : ∃ m, m = n - 1 := ⟨_, rfl⟩
          rw [← hm] at en1 HR11 ⊢
          have hmn : m + 1 = n := by omega
          clear hm
          go_wp2
          go_loopw [138] (fun I wr => ∃ (i : Nat) (z : Nat), I = .int .i64 i ∧ i ≤ m ∧ wr = w14.drewN z) (fun I _ => m - (intOf I).toNat)
          case atStart => exact ⟨0, 0, rfl, by omega, rfl⟩
          case round =>
            obtain ⟨i, z, rfl, hi, rfl⟩ := hrel
            by_cases hlt : i < m
            · obtain ⟨b11, o11, rfl, hb11, hc11⟩ := HR11.out (by rw [lst_length]; omega)
              obtain ⟨b12, o12, rfl, hb12, hc12⟩ := HR12.out (by rw [lst_length]; omega)
              obtain ⟨b14, o14, rfl, hb14, hc14⟩ := HR14.out (by rw [lst_length]; omega)
              have d1 := hc11 i (by rw [lst_length]; exact hlt)
              rw [lst_get hlt] at d1
              have d2 := hc12 i (by rw [lst_length]; omega)
              rw [lst_get (by omega)] at d2
              have d3 := hc14 i (by rw [lst_length]; omega)
              rw [lst_get (by omega)] at d3
              have d1' : (w14.drewN z).cell? ⟨b11, o11 + i, none⟩ = some (.int .u64 ((derL C i).val : Int)) := d1
              have hsum : derL C i = cv (derL (rz q L1)) (rz q L2) i + cv (rz q L1) (derL (rz q L2)) i := by rw [HC.out]; exact der_mul _ _ i
              obtain ⟨y1, hy1⟩ : ∃ y, y = cv (derL (rz q L1)) (rz q L2) i := ⟨_, rfl⟩
              obtain ⟨y2, hy2⟩ : ∃ y, y = cv (rz q L1) (derL (rz q L2)) i := ⟨_, rfl⟩
              rw [← hy1] at d2 hsum
              rw [← hy2] at d3 hsum
              have hpm : ∀ z : Fin q, 0 ≤ ((z.val : Nat) : Int) ∧ ((z.val : Nat) : Int) ≤ 18446744073709551615 := fun z => by have := z.isLt; have := HPM.out.2; omega
              have HAd : Hid (∀ k, Calls Tryz.prog 69 #[.int .u64 (y1.val : Int), .int .u64 (y2.val : Int), .int .u64 q] (w14.drewN (z + k)) fun e w' => e = .returned (.int .u64 ((derL C i).val : Int)) ∧ ∃ k, w' = w14.drewN (z + k)) := Lib.hid (fun k => by
                have h1 := r2add_any (y1.val : Int) (y2.val : Int) q (w14.drewN (z + k)) (hpm y1).1 (hpm y1).2 (hpm y2).1 (hpm y2).2 (by have := HPM.out.1; omega) (by have := HPM.out.2; omega)
                rw [ev_add, zt_of_val, zt_of_val, ← hsum] at h1
                exact h1.mono fun e w' ⟨he, k', hk⟩ => ⟨he, k + k', by rw [hk, World.drewN_drewN, Nat.add_assoc]⟩)
              obtain ⟨y, hy⟩ : ∃ y, y = derL C i := ⟨_, rfl⟩
              rw [← hy] at d1 d1' HAd
              have t : (((y.val : Nat) : Int) != ((y.val : Nat) : Int)) = false := by simp
              have i3 : (i : Int) < (n : Int) := by omega
              clear hc11 hc12 hc14 hsum hy hy1 hy2 hpm d1
              go_wp2_with fail
              go_quiet ((go_at_call 69; exact HAd.out _))
              go_wp2
              go_roundw
              case rel => exact ⟨i + 1, _, by go_num, by omega, rfl⟩
              case measure => simp [intOf]; omega
            · have tj : decide ((i : Int) < (m : Int)) = false := decide_eq_false (by omega)
              go_wp2_with fail
              have hB0 := below_drewN (Below.refl w14.heap.size w14) z
              have hB15 := HB14.out.trans (hB0.mono HB14.out.size)
              have hAc := HAx.out A10 c10 (lst n C) (w14.drewN z) hB15 (by rw [lst_length]; omega) (lst_u64 HPM.out.2 _ _) ((HR10.out.below hB0).mono hB0.size)
              have hec : ev ((lst n C).map (zt q)) (zt q x3) = ea * eb := by
                rw [HC.out, HN.out, HEA.out, HEB.out]
                exact evl_prod L1 L2 _ (by have := HN.out; omega)
              rw [lst_length, hec] at hAc
              have HAc := Lib.hid hAc
              have HA2 : Hid (∀ k, Calls Tryz.prog 66 #[v, .slice A1 L1.length c1, .int .u64 x3] (w14.drewN k) fun r w' => r = .returned (.int .u64 ((ea.val : Nat) : Int)) ∧ ∃ n, w' = (w14.drewN k).drewN n) := Lib.hid (fun k => by
                have hz := HB14.out.trans ((below_drewN (Below.refl w14.heap.size w14) k).mono HB14.out.size)
                have h1 := HAx.out A1 c1 L1 (w14.drewN k) hz (by omega) HU.out (HL9.out.below hz).hR
                rw [← HEA.out] at h1; exact h1)
              have HA3 : Hid (∀ k, Calls Tryz.prog 66 #[v, .slice A2 L2.length c2, .int .u64 x3] (w14.drewN k) fun r w' => r = .returned (.int .u64 ((eb.val : Nat) : Int)) ∧ ∃ n, w' = (w14.drewN k).drewN n) := Lib.hid (fun k => by
                have hz := HB14.out.trans ((below_drewN (Below.refl w14.heap.size w14) k).mono HB14.out.size)
                have h1 := HAx.out A2 c2 L2 (w14.drewN k) hz (by omega) HW.out (HK9.out.below hz).hR
                rw [← HEB.out] at h1; exact h1)
              have HMm : Hid (∀ wz, Calls Tryz.prog 67 #[.int .u64 (ea.val : Int), .int .u64 (eb.val : Int), .int .u64 q] wz fun r w' => r = .returned (.int .u64 ((ea * eb : Fin q).val : Int)) ∧ ∃ k, w' = wz.drewN k) := Lib.hid (fun wz => by
                have hpm : ∀ z : Fin q, 0 ≤ ((z.val : Nat) : Int) ∧ ((z.val : Nat) : Int) ≤ 18446744073709551615 := fun z => by have := z.isLt; have := HPM.out.2; omega
                have h1 := r2mul_any (ea.val : Int) (eb.val : Int) q wz (hpm ea).1 (hpm ea).2 (hpm eb).1 (hpm eb).2 (by have := HPM.out.1; omega) (by have := HPM.out.2; omega)
                rw [ev_mul, zt_of_val, zt_of_val] at h1; exact h1)
              obtain ⟨ec, hce⟩ : ∃ c, c = ea * eb := ⟨_, rfl⟩
              rw [← hce] at HAc HMm
              have HBf := Lib.hid (fun k => HB9.out.trans ((HB14.out.trans ((below_drewN (Below.refl w14.heap.size w14) k).mono HB14.out.size)).mono HB9.out.size))
              have tec : (((ec.val : Nat) : Int) == ((ec.val : Nat) : Int)) = true := by simp
              clear hB0 hB15 hAc hec hce
              refine HAc.out.mono ?_
              rintro r w15 ⟨rfl, k1, rfl⟩
              go_wp2_with fail
              refine (HA2.out _).mono ?_
              rintro r w15 ⟨rfl, k2, rfl⟩
              go_wp2_with fail
              refine (HA3.out _).mono ?_
              rintro r w15 ⟨rfl, k3, rfl⟩
              go_wp2_with fail
              refine (HMm.out _).mono ?_
              rintro r w15 ⟨rfl, k4, rfl⟩
              go_wp2
              go_ret
              exact ⟨by first | rfl | simp, by first | exact HBf.out _ | (repeat rw [World.drewN_drewN]); exact HBf.out _⟩
        · obtain ⟨z, hze⟩ : ∃ z, z = sf2 q n L1 L2 := ⟨_, rfl⟩
          rw [← hze] at HFt hs
          have tz : (z != 0) = true := by simp [hs]
          clear hze hs
          refine HFt.out.mono ?_
          rintro r w9' ⟨rfl, rfl⟩
          go_wp2
          go_ret
          exact ⟨by first | rfl | simp, HB9.out⟩
end Go.Proofs.YthhkljfgkihfgaaGreat
