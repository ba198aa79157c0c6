/- The law ExactSigned. -/
import Derived.Test.YtemoginoanhjlaaGreatWAl24ExBo
import Derived.Test.YtemoginoanhjlaaGreatEx24A
import Derived.Test.YtemoginoanhjlaaGreatSp24
import Derived.Test.YtemoginoanhjlaaGreatOpenI
set_option linter.unusedVariables false
set_option linter.unusedSimpArgs false
set_option linter.unusedSectionVars false
set_option linter.unusedVariables false
set_option linter.unusedSimpArgs false
namespace Go.Proofs.YtemoginoanhjlaaGreat
open Go.RowKit
open Alg (Prime)
set_option maxHeartbeats 16000000 in
set_option maxRecDepth 100000 in
theorem exactSigned_walk (w : World) (Aa : Option Addr) (ca : Nat) (kinda kka ppa : Int) (esa : List Ent) (Ab : Option Addr) (cb : Nat) (kindb kkb ppb : Int) (esb : List Ent) (Ac : Option Addr) (cc : Nat) (kindc kkc ppc : Int) (esc : List Ent) (A1 : Option Addr) (c1 : Nat) (L1 : List Int) (A2 : Option Addr) (c2 : Nat) (L2 : List Int) (hsa : SrcA w Aa ca kinda kka ppa esa) (hsb : SrcA w Ab cb kindb kkb ppb esb) (hsc : SrcA w Ac cc kindc kkc ppc esc) (hl1 : LstI w A1 c1 L1) (hl2 : LstI w A2 c2 L2) :
    Calls Tryz.prog 6 #[.agg #[.int .i64 kinda, .int .i64 kka, .int .u64 ppa, .slice Aa esa.length ca, .int .i64 kindb, .int .i64 kkb, .int .u64 ppb, .slice Ab esb.length cb, .int .i64 kindc, .int .i64 kkc, .int .u64 ppc, .slice Ac esc.length cc], .slice A1 L1.length c1, .slice A2 L2.length c2] w fun e w' => e = .returned (.bool true) ∧ Below w.heap.size w w' := by
  have HU1 := Lib.hid hl1.hU
  have HU2 := Lib.hid hl2.hU
  have hLm := hl1.hl
  have hMm := hl2.hl
  have HRx : Hid (∀ W, Below w.heap.size w W → RdI W W.heap.size .i64 A1 L1) := Lib.hid (fun W hW => (hl1.below hW).hR)
  have HRy : Hid (∀ W, Below w.heap.size w W → RdI W W.heap.size .i64 A2 L2) := Lib.hid (fun W hW => (hl2.below hW).hR)
  clear hl1 hl2
  have R0 := Lib.hid (lay1 w 55 #[.int .i64 kinda, .int .i64 kka, .int .u64 ppa, .slice Aa esa.length ca, .int .i64 kindb, .int .i64 kkb, .int .u64 ppb, .slice Ab esb.length cb, .int .i64 kindc, .int .i64 kkc, .int .u64 ppc, .slice Ac esc.length cc])
  have HSa := Lib.hid hsa
  have HSb := Lib.hid hsb
  have HSc := Lib.hid hsc
  have hz : ∀ w, (zeroValue 69).run Tryz.prog w = .ok (.agg #[.int .u64 0, .int .u64 0, .int .u64 0]) w := (zero_of_info info_three).1
  have hz3 : ∀ w, (zeroValue 58).run Tryz.prog w = .ok (.agg #[.int .u64 0, .int .u64 0, .int .u64 0]) w := (zero_of_info info_w3).1
  clear hsa hsb hsc
  go_enter Tryz.func6, Tryz.ntmps6
  go_wp2_with fail
  generalize (w.alloc (.cells #[.int .i64 kinda, .int .i64 kka, .int .u64 ppa, .slice Aa esa.length ca, .int .i64 kindb, .int .i64 kkb, .int .u64 ppb, .slice Ab esb.length cb, .int .i64 kindc, .int .i64 kkc, .int .u64 ppc, .slice Ac esc.length cc] 55)) = w1 at *
  refine (alive24_any w1).mono ?_
  rintro e w2 ⟨rfl, hB2⟩
  have R2 : Hid (RowAt w2 w.heap.size 55 #[.int .i64 kinda, .int .i64 kka, .int .u64 ppa, .slice Aa esa.length ca, .int .i64 kindb, .int .i64 kkb, .int .u64 ppb, .slice Ab esb.length cb, .int .i64 kindc, .int .i64 kkc, .int .u64 ppc, .slice Ac esc.length cc] ∧ Below w.heap.size w w2) := Lib.hid ⟨R0.out.1.keep hB2, R0.out.2.trans (hB2.mono R0.out.2.size)⟩
  clear hB2 R0
  by_cases hlong1 : 1100 < L1.length
  · have t0 : decide ((1100 : Int) < L1.length) = true := by simp; omega
    clear hLm hMm hlong1
    go_wp2
    go_ret
    exact ⟨rfl, R2.out.2⟩
  have t0 : decide ((1100 : Int) < L1.length) = false := by simp; omega
  by_cases hlong2 : 1100 < L2.length
  · have t0' : decide ((1100 : Int) < L2.length) = true := by simp; omega
    clear hLm hMm hlong1 hlong2
    go_wp2
    go_ret
    exact ⟨rfl, R2.out.2⟩
  have t0' : decide ((1100 : Int) < L2.length) = false := by simp; omega
  have hL1 : L1.length ≤ 1100 := by omega
  have hL2 : L2.length ≤ 1100 := by omega
  clear hLm hMm hlong1 hlong2
  go_wp2_with (refine wpList_load_row rfl _ _ rfl _ rfl _ _ _ _ (R2.out.1) Tryz.underlying55 rfl (by exact size_threes) ?_)
  refine (trio_any w2 Aa ca kinda kka ppa esa Ab cb kindb kkb ppb esb Ac cc kindc kkc ppc esc (HSa.out.below R2.out.2) (HSb.out.below R2.out.2) (HSc.out.below R2.out.2)).mono ?_
  rintro e w3 ⟨v, p, q, r, er, ok, rfl, hTR, hB3⟩
  have hl1 := R2.out.2.size
  have hl2 := hB3.size
  have H6 := Lib.hid (RowAt.new w3 58 #[.int .u64 0, .int .u64 0, .int .u64 0])
  have hTR4 : TR (w3.alloc (.cells #[.int .u64 0, .int .u64 0, .int .u64 0] 58)) v p q r er ok := hTR.keep ((Below.refl w3.heap.size w3).alloc (Nat.le_refl _) _)
  have K4 : Hid (RowAt ((w3.alloc (.cells #[.int .u64 0, .int .u64 0, .int .u64 0] 58)).setRow w3.heap.size #[.int .u64 (p : Int), .int .u64 (q : Int), .int .u64 (r : Int)]) w3.heap.size 58 #[.int .u64 (p : Int), .int .u64 (q : Int), .int .u64 (r : Int)] ∧ TR ((w3.alloc (.cells #[.int .u64 0, .int .u64 0, .int .u64 0] 58)).setRow w3.heap.size #[.int .u64 (p : Int), .int .u64 (q : Int), .int .u64 (r : Int)]) v p q r er ok ∧ Below w.heap.size w ((w3.alloc (.cells #[.int .u64 0, .int .u64 0, .int .u64 0] 58)).setRow w3.heap.size #[.int .u64 (p : Int), .int .u64 (q : Int), .int .u64 (r : Int)])) := Lib.hid ⟨H6.out.setRow _, hTR4.setRow (m := 0) H6.out _, below_setRow ((R2.out.2.trans (hB3.mono hl1)).alloc (by omega) _) (by omega) _⟩
  clear hTR hTR4 hB3 R2 HSa HSb HSc
  have KP : Hid (∀ W W', (RowAt W w3.heap.size 58 #[.int .u64 (p : Int), .int .u64 (q : Int), .int .u64 (r : Int)] ∧ TR W v p q r er ok ∧ Below w.heap.size w W) → Below W.heap.size W W' → (RowAt W' w3.heap.size 58 #[.int .u64 (p : Int), .int .u64 (q : Int), .int .u64 (r : Int)] ∧ TR W' v p q r er ok ∧ Below w.heap.size w W')) := Lib.hid (fun W W' h hB => ⟨h.1.keep hB, h.2.1.keep hB, h.2.2.trans (hB.mono h.2.2.size)⟩)
  go_wp2_with (refine wpList_store_row rfl _ _ _ rfl _ #[.int .u64 (p : Int), .int .u64 (q : Int), .int .u64 (r : Int)] rfl rfl _ _ (H6.out) size_w3 rfl (one3 _ _ _) ?_; generalize hW4 : (w3.alloc (.cells #[.int .u64 0, .int .u64 0, .int .u64 0] 58)).setRow w3.heap.size #[.int .u64 (p : Int), .int .u64 (q : Int), .int .u64 (r : Int)] = w4 at *)
  obtain ⟨hp, hq, hr, ⟨rfl, rfl, hT, hV⟩ | ⟨rfl, rfl, her, hno⟩⟩ := K4.out.2.1
  · have HT := Lib.hid hT
    have hp3 := hT.p3
    have hq3 := hT.q3
    have hr3 := hT.r3
    have HSn := Lib.hid (xsgn_yes hV hT A1 A2 c1 c2 L1 L2 (by omega) (by omega) HU1.out HU2.out (HRx.out _ K4.out.2.2) (HRy.out _ K4.out.2.2))
    have HSpA := Lib.hid (fun W (hW : Below w.heap.size w W) => split24_any A1 c1 L1 W (by omega) HU1.out (HRx.out W hW))
    have HSpB := Lib.hid (fun W (hW : Below w.heap.size w W) => split24_any A2 c2 L2 W (by omega) HU2.out (HRy.out W hW))
    obtain ⟨U, hU⟩ : ∃ U, U = sizesL L1 := ⟨_, rfl⟩
    obtain ⟨V, hV'⟩ : ∃ V, V = sizesL L2 := ⟨_, rfl⟩
    obtain ⟨S, hS⟩ : ∃ S, S = sgnL L1 := ⟨_, rfl⟩
    obtain ⟨Tt, hTt⟩ : ∃ T, T = sgnL L2 := ⟨_, rfl⟩
    have HUl : Hid (U.length = L1.length ∧ V.length = L2.length ∧ S.length = L1.length ∧ Tt.length = L2.length ∧ U64s U ∧ U64s V ∧ Sgd L1 U S ∧ Sgd L2 V Tt) := Lib.hid (by
      rw [hU, hV', hS, hTt]
      exact ⟨sizesL_length _, sizesL_length _, sgnL_length _, sgnL_length _, sizesL_u64 HU1.out, sizesL_u64 HU2.out, sgd_signs _, sgd_signs _⟩)
    have HFt : Hid (∀ (X Y : Option Addr) (cx cy : Nat) W, RdI W W.heap.size .u64 X U → RdI W W.heap.size .u64 Y V → Calls Tryz.prog 29 #[.agg #[.int .u64 (p : Int), .int .u64 (q : Int), .int .u64 (r : Int)], .slice X L1.length cx, .slice Y L2.length cy, .bool true] W fun e w' => e = .returned (.int .i64 (chkX p q r L1.length L2.length (mostL (sizesL L1)).toNat (mostL (sizesL L2)).toNat true)) ∧ Below W.heap.size W w') := Lib.hid (fun X Y cx cy W hX hY => by
      have h := r24fault_any p q r hp hq hr (by omega) (by omega) (by omega) X Y cx cy U V true W (by rw [HUl.out.1]; omega) (by rw [HUl.out.2.1]; omega) HUl.out.2.2.2.2.1 HUl.out.2.2.2.2.2.1 hX hY
      rw [HUl.out.1, HUl.out.2.1] at h
      rw [hU, hV'] at h
      exact h)
    rw [← hU] at HSpA
    rw [← hS] at HSpA
    rw [← hV'] at HSpB
    rw [← hTt] at HSpB
    obtain ⟨ek, hek⟩ : ∃ ek, ek = chkX p q r L1.length L2.length (mostL (sizesL L1)).toNat (mostL (sizesL L2)).toNat true := ⟨_, rfl⟩
    have HEK := Lib.hid hek
    rw [← hek] at HSn HFt
    obtain ⟨n, hn⟩ : ∃ n, n = L1.length + L2.length - 1 := ⟨_, rfl⟩
    obtain ⟨X, hX⟩ : ∃ X : Nat → Nat, X = fun k => w192 (cI L1 L2 k) := ⟨_, rfl⟩
    rw [← hn, ← hX] at HSn
    have HA0 : Hid (∀ k : Nat, k ≤ 24 → ∀ (x1 x2 x3 x4 : Option Addr) (d1 d2 d3 d4 : Nat) W, RdI W W.heap.size .u64 x1 U → RdB W W.heap.size x2 S → RdI W W.heap.size .u64 x3 V → RdB W W.heap.size x4 Tt → Calls Tryz.prog 30 #[.slice x1 L1.length d1, .slice x2 L1.length d2, .slice x3 L2.length d3, .slice x4 L2.length d4, .int .i64 (k : Int)] W fun e w' => e = .returned (.agg (three (X k))) ∧ Below W.heap.size W w') := Lib.hid (fun k hk x1 x2 x3 x4 d1 d2 d3 d4 W h1 h2 h3 h4 => by
      rw [hX]
      have h := r24at_any x1 x2 x3 x4 d1 d2 d3 d4 U V L1 L2 S Tt k W (by omega) (by rw [HUl.out.1]; omega) (by rw [HUl.out.2.1]; omega) HUl.out.2.2.2.2.1 HUl.out.2.2.2.2.2.1 HUl.out.2.2.2.2.2.2.1 HUl.out.2.2.2.2.2.2.2 h1 h2 h3 h4
      rw [HUl.out.1, HUl.out.2.1] at h
      exact h)
    have HEq : Hid (∀ (k : Nat) W, (Op.equalIn 10000 58 (.agg (tl (X k)).toArray) (.agg (three (X k)))).run Tryz.prog W = .ok true W) := Lib.hid (fun k W => by rw [tl_list, eqn_words _ _ (by rw [hX]; exact w192_lt _) (by rw [hX]; exact w192_lt _)]; simp)
    have HN1 := Lib.hid hn
    clear hV hT hp3 hq3 hr3 hek hn hX hp hq hr hU hV' hS hTt H6
    refine HSn.out.mono ?_
    rintro e w5 ⟨hres, hB5⟩
    have HRes := Lib.hid hres
    have K5 := Lib.hid (KP.out _ _ K4.out hB5)
    have H45 : Hid (w4.heap.size ≤ w5.heap.size) := Lib.hid hB5.size
    clear hB5 K4 HSn hres
    rcases HRes.out with ⟨h0, rfl⟩ | ⟨h0, G, rfl, hG, hR⟩
    · have t4 : (ek != 0) = true := by simpa using h0
      have t5 : (ek == ek) = true := by simp
      clear h0 HRes HA0 HEq
      go_wp2_with fail
      refine (HSpA.out _ K5.out.2.2).mono ?_
      rintro e w6 ⟨vU, vS, rfl, hO6, hb6, hB6⟩
      have K6 := Lib.hid (KP.out _ _ K5.out hB6)
      obtain ⟨xU, dU, rfl, hRU⟩ := hO6.rd
      obtain ⟨xS, dS, hvS, hRS⟩ := RdB.of_own (by rw [HUl.out.2.2.1]; exact hb6)
      rw [HUl.out.2.2.1] at hvS
      subst hvS
      have HU6 := Lib.hid hRU
      have HS6 := Lib.hid hRS
      clear hO6 hb6 hRU hRS hB6 K5
      go_wp2_with fail
      refine (HSpB.out _ K6.out.2.2).mono ?_
      rintro e w7 ⟨vV, vT, rfl, hO7, hb7, hB7⟩
      have K7 := Lib.hid (KP.out _ _ K6.out hB7)
      obtain ⟨xV, dV, rfl, hRV⟩ := hO7.rd
      obtain ⟨xT, dT, hvT, hRT⟩ := RdB.of_own (by rw [HUl.out.2.2.2.1]; exact hb7)
      rw [HUl.out.2.2.2.1] at hvT
      subst hvT
      have HV7 := Lib.hid hRV
      have HT7 := Lib.hid hRT
      have HU7 := Lib.hid ((HU6.out.below hB7).mono hB7.size)
      have HS7 := Lib.hid ((HS6.out.below hB7).mono hB7.size)
      clear hO7 hb7 hRV hRT hB7 K6 HU6 HS6
      go_wp2_with (refine wpList_load_row rfl _ _ rfl _ rfl _ _ _ _ (K7.out.1) Tryz.underlying58 rfl size_w3 ?_)
      refine (HFt.out _ _ _ _ _ HU7.out HV7.out).mono ?_
      rintro e w8 ⟨rfl, hB8⟩
      have K8 := Lib.hid (KP.out _ _ K7.out hB8)
      clear hB8
      go_wp2
      go_ret
      exact ⟨by first | rfl | simp, K8.out.2.2⟩
    · have HR5 := Lib.hid hR
      obtain ⟨z1, z2, z3, z4, z5⟩ := chkX_zero (HEK.out.symm.trans h0)
      have t5 : ((n : Int) != (L1.length : Int) + (L2.length : Int) - 1) = false := by have := HN1.out; simp; omega
      subst h0
      clear HRes hR hG z1 z2 z3 z4 z5 HEK
      go_wp2_with fail
      refine (HSpA.out _ K5.out.2.2).mono ?_
      rintro e w6 ⟨vU, vS, rfl, hO6, hb6, hB6⟩
      have K6 := Lib.hid (KP.out _ _ K5.out hB6)
      have HR6 := Lib.hid (HR5.out.keep hB6)
      obtain ⟨xU, dU, rfl, hRU⟩ := hO6.rd
      obtain ⟨xS, dS, hvS, hRS⟩ := RdB.of_own (by rw [HUl.out.2.2.1]; exact hb6)
      rw [HUl.out.2.2.1] at hvS
      subst hvS
      have HU6 := Lib.hid hRU
      have HS6 := Lib.hid hRS
      clear hO6 hb6 hRU hRS hB6 K5
      go_wp2_with fail
      refine (HSpB.out _ K6.out.2.2).mono ?_
      rintro e w7 ⟨vV, vT, rfl, hO7, hb7, hB7⟩
      have K7 := Lib.hid (KP.out _ _ K6.out hB7)
      have HR7 := Lib.hid (HR6.out.keep hB7)
      obtain ⟨xV, dV, rfl, hRV⟩ := hO7.rd
      obtain ⟨xT, dT, hvT, hRT⟩ := RdB.of_own (by rw [HUl.out.2.2.2.1]; exact hb7)
      rw [HUl.out.2.2.2.1] at hvT
      subst hvT
      have HV7 := Lib.hid hRV
      have HT7 := Lib.hid hRT
      have HU7 := Lib.hid ((HU6.out.below hB7).mono hB7.size)
      have HS7 := Lib.hid ((HS6.out.below hB7).mono hB7.size)
      clear hO7 hb7 hRV hRT hB7 K6 HU6 HS6
      go_wp2_with (refine wpList_load_row rfl _ _ rfl _ rfl _ _ _ _ (K7.out.1) Tryz.underlying58 rfl size_w3 ?_)
      refine (HFt.out _ _ _ _ _ HU7.out HV7.out).mono ?_
      rintro e w8 ⟨rfl, hB8⟩
      have K8 := Lib.hid (KP.out _ _ K7.out hB8)
      have HR8 := Lib.hid (HR7.out.keep hB8)
      have HU8 := Lib.hid ((HU7.out.below hB8).mono hB8.size)
      have HS8 := Lib.hid ((HS7.out.below hB8).mono hB8.size)
      have HV8 := Lib.hid ((HV7.out.below hB8).mono hB8.size)
      have HT8 := Lib.hid ((HT7.out.below hB8).mono hB8.size)
      clear hB8 HR5 HR6 HR7 K7 HU7 HS7 HV7 HT7
      have KR : Hid (∀ W W', (R3 W G n X ∧ Below w.heap.size w W ∧ Below w8.heap.size w8 W) → Below W.heap.size W W' → (R3 W' G n X ∧ Below w.heap.size w W' ∧ Below w8.heap.size w8 W')) := Lib.hid (fun W W' h hB => ⟨h.1.keep hB, h.2.1.trans (hB.mono h.2.1.size), h.2.2.trans (hB.mono h.2.2.size)⟩)
      by_cases h24 : 24 < n
      · have t6 : decide ((n : Int) > 24) = true := by simp; omega
        clear h24
        go_wp2
        go_ret
        exact ⟨by first | rfl | simp, K8.out.2.2⟩
      · have t6 : decide ((n : Int) > 24) = false := by simp; omega
        have hn24 : n ≤ 24 := by omega
        have Q0 : Hid (R3 w8 G n X ∧ Below w.heap.size w w8 ∧ Below w8.heap.size w8 w8) := Lib.hid ⟨HR8.out, K8.out.2.2, Below.refl _ _⟩
        clear h24 HR8
        go_wp2
        go_loopw [96] (fun I wr => ∃ k : Nat, I = .int .i64 k ∧ k ≤ n ∧ Hid (R3 wr G n X ∧ Below w.heap.size w wr ∧ Below w8.heap.size w8 wr)) (fun I _ => n - (intOf I).toNat)
        case atStart => exact ⟨0, rfl, by omega, Q0⟩
        case round =>
          clear Q0
          obtain ⟨k, rfl, hk, Q⟩ := hrel
          by_cases hlt : k < n
          · have f0 : (0 : Int) ≤ (k : Int) := by omega
            have f1 : (k : Int) < (n : Int) := by omega
            have HAt : Hid (∀ W, Below w8.heap.size w8 W → Calls Tryz.prog 30 #[.slice xU L1.length dU, .slice xS L1.length dS, .slice xV L2.length dV, .slice xT L2.length dT, .int .i64 (k : Int)] W fun e w' => e = .returned (.agg (three (X k))) ∧ Below W.heap.size W w') := Lib.hid (fun W hW => HA0.out k (by omega) _ _ _ _ _ _ _ _ W ((HU8.out.below hW).mono hW.size) ((HS8.out.below hW).mono hW.size) ((HV8.out.below hW).mono hW.size) ((HT8.out.below hW).mono hW.size))
            have HSl : Hid (∀ W, (R3 W G n X ∧ Below w.heap.size w W ∧ Below w8.heap.size w8 W) → W.rangeAt G (k * 3) (tl (X k))) := Lib.hid (fun W h => h.1.range k hlt)
            have ee := HEq.out k
            obtain ⟨x, hx⟩ : ∃ x, x = X k := ⟨_, rfl⟩
            rw [← hx] at HAt HSl ee
            clear hx
            have z0 : Hid (R3 (wr.drewN 1) G n X ∧ Below w.heap.size w (wr.drewN 1) ∧ Below w8.heap.size w8 (wr.drewN 1)) := Lib.hid (KR.out _ _ Q.out (below_drewN (Below.refl _ _) 1))
            clear Q
            go_wp2_with fail
            change (Code.region _ _ true).wp _ _ _ _
            refine wp_region_held_drew (S := fun wz => wz.rangeAt G (k * 3) (tl x)) (by kernel_rfl) ((HSl.out _ z0.out)) (fun hHeld => ?_)
            refine wpAnyH_take (i := 0) (v := ?_) rfl (by kernel_rfl) (by kernel_rfl) (by kernel_rfl) (fun _ _ _ h => h) (Or.inl ⟨by rfl, ?_⟩) (HSl.out _ z0.out) ?_
            rotate_left
            · intro w hSw; (try dsimp only at hSw); go_simp; try with_reducible rfl
            try simp only [Act.put, List.getElem_toArray, List.getElem_cons_zero, List.getElem_cons_succ, List.setIfInBounds_toArray, List.set_cons_zero, List.set_cons_succ]
            refine wpAnyH_take (i := 1) (v := ?_) rfl (by kernel_rfl) (by kernel_rfl) (by kernel_rfl) (fun _ _ _ h => h) (Or.inl ⟨by rfl, ?_⟩) (HSl.out _ z0.out) ?_
            rotate_left
            · intro w hSw; (try dsimp only at hSw); go_simp; try with_reducible rfl
            try simp only [Act.put, List.getElem_toArray, List.getElem_cons_zero, List.getElem_cons_succ, List.setIfInBounds_toArray, List.set_cons_zero, List.set_cons_succ]
            refine wpAnyH_take (i := 2) (v := ?_) rfl (by kernel_rfl) (by kernel_rfl) (by kernel_rfl) (fun _ _ _ h => h) (Or.inl ⟨by rfl, ?_⟩) (HSl.out _ z0.out) ?_
            rotate_left
            · intro w hSw; (try dsimp only at hSw); go_simp; try with_reducible rfl
            try simp only [Act.put, List.getElem_toArray, List.getElem_cons_zero, List.getElem_cons_succ, List.setIfInBounds_toArray, List.set_cons_zero, List.set_cons_succ]
            refine wpAnyH_take (i := 3) rfl (by kernel_rfl) (by kernel_rfl) (by kernel_rfl) (fun _ _ _ h => h) (yieldsIf_load_mid (by rfl) _ _ rfl _ _ rfl _ _ (fun wz h => h) Tryz.underlying69 rfl (by exact size_three)) (HSl.out _ z0.out) ?_
            try simp only [Act.put, List.getElem_toArray, List.getElem_cons_zero, List.getElem_cons_succ, List.setIfInBounds_toArray, List.set_cons_zero, List.set_cons_succ]
            refine wpAnyH_take (i := 4) (v := ?_) rfl (by kernel_rfl) (by kernel_rfl) (by kernel_rfl) (fun _ _ _ h => h) (Or.inl ⟨by rfl, ?_⟩) (HSl.out _ z0.out) ?_
            rotate_left
            · intro w hSw; (try dsimp only at hSw); go_simp; try with_reducible rfl
            try simp only [Act.put, List.getElem_toArray, List.getElem_cons_zero, List.getElem_cons_succ, List.setIfInBounds_toArray, List.set_cons_zero, List.set_cons_succ]
            refine wpAnyH_take (i := 5) (v := ?_) rfl (by kernel_rfl) (by kernel_rfl) (by kernel_rfl) (fun _ _ _ h => h) (Or.inl ⟨by rfl, ?_⟩) (HSl.out _ z0.out) ?_
            rotate_left
            · intro w hSw; (try dsimp only at hSw); go_simp; try with_reducible rfl
            try simp only [Act.put, List.getElem_toArray, List.getElem_cons_zero, List.getElem_cons_succ, List.setIfInBounds_toArray, List.set_cons_zero, List.set_cons_succ]
            refine wpAnyH_take (i := 6) (v := ?_) rfl (by kernel_rfl) (by kernel_rfl) (by kernel_rfl) (fun _ _ _ h => h) (Or.inl ⟨by rfl, ?_⟩) (HSl.out _ z0.out) ?_
            rotate_left
            · intro w hSw; (try dsimp only at hSw); go_simp; try with_reducible rfl
            try simp only [Act.put, List.getElem_toArray, List.getElem_cons_zero, List.getElem_cons_succ, List.setIfInBounds_toArray, List.set_cons_zero, List.set_cons_succ]
            refine wpAnyH_take (i := 7) (v := ?_) rfl (by kernel_rfl) (by kernel_rfl) (by kernel_rfl) (fun _ _ _ h => h) (Or.inl ⟨by rfl, ?_⟩) (HSl.out _ z0.out) ?_
            rotate_left
            · intro w hSw; (try dsimp only at hSw); go_simp; try with_reducible rfl
            try simp only [Act.put, List.getElem_toArray, List.getElem_cons_zero, List.getElem_cons_succ, List.setIfInBounds_toArray, List.set_cons_zero, List.set_cons_succ]
            refine wpAnyH_take (i := 8) (v := ?_) rfl (by kernel_rfl) (by kernel_rfl) (by kernel_rfl) (fun _ _ _ h => h) (Or.inl ⟨by rfl, ?_⟩) (HSl.out _ z0.out) ?_
            rotate_left
            · intro w hSw; (try dsimp only at hSw); go_simp; try with_reducible rfl
            try simp only [Act.put, List.getElem_toArray, List.getElem_cons_zero, List.getElem_cons_succ, List.setIfInBounds_toArray, List.set_cons_zero, List.set_cons_succ]
            refine wpAnyH_ready (rs := [9]) (by kernel_rfl) (by simp) ?_
            refine AllReadyH.cons rfl (fun K hK => ?_) AllReadyH.nil
            try simp only [List.getElem_toArray, List.getElem_cons_zero, List.getElem_cons_succ]
            rw [if_pos (by rfl)]
            go_wp2_with (go_at_call 30; refine (HAt.out _ z0.out.2.2).mono ?_; rintro e y9 ⟨rfl, hY⟩)
            have z9 := Lib.hid (KR.out _ _ z0.out hY)
            clear hY
            refine hK.out _ _ ((HSl.out _ z9.out)) (fun _ => ?_)
            clear hK K
            try simp only [Act.put, List.getElem_toArray, List.getElem_cons_zero, List.getElem_cons_succ, List.setIfInBounds_toArray, List.set_cons_zero, List.set_cons_succ]
            refine wpAnyH_take (i := 10) (v := ?_) rfl (by kernel_rfl) (by kernel_rfl) (by kernel_rfl) (fun _ _ _ h => h) (Or.inl ⟨by rfl, ?_⟩) (HSl.out _ z9.out) ?_
            rotate_left
            · intro w hSw; (try dsimp only at hSw); go_simp; try with_reducible rfl
            try simp only [Act.put, List.getElem_toArray, List.getElem_cons_zero, List.getElem_cons_succ, List.setIfInBounds_toArray, List.set_cons_zero, List.set_cons_succ]
            refine wpAnyH_done (by kernel_rfl) ?_ _
            go_wp2
            go_roundw
            case rel => exact ⟨k + 1, by go_num, by omega, z9⟩
            case measure => simp [intOf]; omega
          · obtain rfl : k = n := by omega
            go_wp2
            go_ret
            exact ⟨by first | rfl | simp, Q.out.2.1⟩
  · clear her hno hp hq hr
    have HSn := Lib.hid (xsgn_nil A1 A2 c1 c2 L1 L2 w4 (by omega) (by omega) HU1.out HU2.out (HRx.out _ K4.out.2.2) (HRy.out _ K4.out.2.2))
    refine HSn.out.mono ?_
    rintro e w5 ⟨rfl, hB5⟩
    have K5 := Lib.hid (KP.out _ _ K4.out hB5)
    clear hB5 K4 HSn H6
    go_wp2
    go_ret
    exact ⟨by first | rfl | simp, K5.out.2.2⟩
end Go.Proofs.YtemoginoanhjlaaGreat
