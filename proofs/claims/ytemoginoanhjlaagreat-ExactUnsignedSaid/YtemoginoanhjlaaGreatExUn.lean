/- The law ExactUnsigned. -/
import Derived.Test.YtemoginoanhjlaaGreatWAl24ExBo
import Derived.Test.YtemoginoanhjlaaGreatEx24A
import Derived.Test.YtemoginoanhjlaaGreatClone2
set_option linter.unusedVariables false
set_option linter.unusedSimpArgs false
set_option linter.unusedSectionVars false
set_option linter.unusedVariables false
set_option linter.unusedSimpArgs false
namespace Go.Proofs.YtemoginoanhjlaaGreat
open Go.RowKit
open Alg (Prime)
theorem sgd_plain (L : List Int) : Sgd L L (List.replicate L.length false) :=
  ⟨rfl, List.length_replicate, fun i hi => by rw [List.getD_eq_getElem?_getD (l := List.replicate _ _), List.getElem?_replicate, if_pos hi]; rfl⟩
set_option maxHeartbeats 16000000 in
set_option maxRecDepth 100000 in
theorem exactUnsigned_walk (w : World) (Aa : Option Addr) (ca : Nat) (kinda kka ppa : Int) (esa : List Ent) (Ab : Option Addr) (cb : Nat) (kindb kkb ppb : Int) (esb : List Ent) (Ac : Option Addr) (cc : Nat) (kindc kkc ppc : Int) (esc : List Ent) (A1 : Option Addr) (c1 : Nat) (L1 : List Int) (A2 : Option Addr) (c2 : Nat) (L2 : List Int) (hsa : SrcA w Aa ca kinda kka ppa esa) (hsb : SrcA w Ab cb kindb kkb ppb esb) (hsc : SrcA w Ac cc kindc kkc ppc esc) (hl1 : LstA w A1 c1 L1) (hl2 : LstA w A2 c2 L2) :
    Calls Tryz.prog 8 #[.agg #[.int .i64 kinda, .int .i64 kka, .int .u64 ppa, .slice Aa esa.length ca, .int .i64 kindb, .int .i64 kkb, .int .u64 ppb, .slice Ab esb.length cb, .int .i64 kindc, .int .i64 kkc, .int .u64 ppc, .slice Ac esc.length cc], .slice A1 L1.length c1, .slice A2 L2.length c2] w fun e w' => e = .returned (.bool true) ∧ Below w.heap.size w w' := by
  obtain ⟨ib, hib, hb0, hb1, hb2⟩ := info_parts info_bool
  have HU1 := Lib.hid hl1.hU
  have HU2 := Lib.hid hl2.hU
  have hLm := hl1.hl
  have hMm := hl2.hl
  have HLx : Hid (∀ W, Below w.heap.size w W → LstA (W.alloc (.cells #[] 22)) A1 c1 L1) := Lib.hid (fun W hW => (hl1.below hW).below ((Below.refl _ _).alloc (Nat.le_refl _) _))
  have HLy : Hid (∀ W, Below w.heap.size w W → LstA (W.alloc (.cells #[] 22)) A2 c2 L2) := Lib.hid (fun W hW => (hl2.below hW).below ((Below.refl _ _).alloc (Nat.le_refl _) _))
  have HRx : Hid (∀ W, Below w.heap.size w W → RdI W W.heap.size .u64 A1 L1) := Lib.hid (fun W hW => (hl1.below hW).hR)
  have HRy : Hid (∀ W, Below w.heap.size w W → RdI W W.heap.size .u64 A2 L2) := Lib.hid (fun W hW => (hl2.below hW).hR)
  have HOwn : Hid (∀ W : World, (W.alloc (.cells #[] 22)).ownsRow W.heap.size 22 1 (.slice (some ⟨W.heap.size, 0, none⟩) 0 0) 0 []) := Lib.hid (fun W => World.ownsRow_lit W #[] 0 (Nat.le_refl _) (by unfold maxLen; omega) rfl)
  clear hl1 hl2
  have R0 := Lib.hid (lay1 w 55 #[.int .i64 kinda, .int .i64 kka, .int .u64 ppa, .slice Aa esa.length ca, .int .i64 kindb, .int .i64 kkb, .int .u64 ppb, .slice Ab esb.length cb, .int .i64 kindc, .int .i64 kkc, .int .u64 ppc, .slice Ac esc.length cc])
  have HSa := Lib.hid hsa
  have HSb := Lib.hid hsb
  have HSc := Lib.hid hsc
  have hz : ∀ w, (zeroValue 69).run Tryz.prog w = .ok (.agg #[.int .u64 0, .int .u64 0, .int .u64 0]) w := (zero_of_info info_three).1
  have hz3 : ∀ w, (zeroValue 58).run Tryz.prog w = .ok (.agg #[.int .u64 0, .int .u64 0, .int .u64 0]) w := (zero_of_info info_w3).1
  clear hsa hsb hsc
  go_enter Tryz.func8, Tryz.ntmps8
  go_wp2_with fail
  generalize (w.alloc (.cells #[.int .i64 kinda, .int .i64 kka, .int .u64 ppa, .slice Aa esa.length ca, .int .i64 kindb, .int .i64 kkb, .int .u64 ppb, .slice Ab esb.length cb, .int .i64 kindc, .int .i64 kkc, .int .u64 ppc, .slice Ac esc.length cc] 55)) = w1 at *
  refine (alive24_any w1).mono ?_
  rintro e w2 ⟨rfl, hB2⟩
  have R2 : Hid (RowAt w2 w.heap.size 55 #[.int .i64 kinda, .int .i64 kka, .int .u64 ppa, .slice Aa esa.length ca, .int .i64 kindb, .int .i64 kkb, .int .u64 ppb, .slice Ab esb.length cb, .int .i64 kindc, .int .i64 kkc, .int .u64 ppc, .slice Ac esc.length cc] ∧ Below w.heap.size w w2) := Lib.hid ⟨R0.out.1.keep hB2, R0.out.2.trans (hB2.mono R0.out.2.size)⟩
  clear hB2 R0
  by_cases hlong1 : 1100 < L1.length
  · have t0 : decide ((1100 : Int) < L1.length) = true := by simp; omega
    clear hLm hMm hlong1
    go_wp2
    go_ret
    exact ⟨rfl, R2.out.2⟩
  have t0 : decide ((1100 : Int) < L1.length) = false := by simp; omega
  by_cases hlong2 : 1100 < L2.length
  · have t0' : decide ((1100 : Int) < L2.length) = true := by simp; omega
    clear hLm hMm hlong1 hlong2
    go_wp2
    go_ret
    exact ⟨rfl, R2.out.2⟩
  have t0' : decide ((1100 : Int) < L2.length) = false := by simp; omega
  have hL1 : L1.length ≤ 1100 := by omega
  have hL2 : L2.length ≤ 1100 := by omega
  clear hLm hMm hlong1 hlong2
  go_wp2_with (refine wpList_load_row rfl _ _ rfl _ rfl _ _ _ _ (R2.out.1) Tryz.underlying55 rfl (by exact size_threes) ?_)
  refine (trio_any w2 Aa ca kinda kka ppa esa Ab cb kindb kkb ppb esb Ac cc kindc kkc ppc esc (HSa.out.below R2.out.2) (HSb.out.below R2.out.2) (HSc.out.below R2.out.2)).mono ?_
  rintro e w3 ⟨v, p, q, r, er, ok, rfl, hTR, hB3⟩
  have hl1 := R2.out.2.size
  have hl2 := hB3.size
  have H6 := Lib.hid (RowAt.new w3 58 #[.int .u64 0, .int .u64 0, .int .u64 0])
  have hTR4 : TR (w3.alloc (.cells #[.int .u64 0, .int .u64 0, .int .u64 0] 58)) v p q r er ok := hTR.keep ((Below.refl w3.heap.size w3).alloc (Nat.le_refl _) _)
  have K4 : Hid (RowAt ((w3.alloc (.cells #[.int .u64 0, .int .u64 0, .int .u64 0] 58)).setRow w3.heap.size #[.int .u64 (p : Int), .int .u64 (q : Int), .int .u64 (r : Int)]) w3.heap.size 58 #[.int .u64 (p : Int), .int .u64 (q : Int), .int .u64 (r : Int)] ∧ TR ((w3.alloc (.cells #[.int .u64 0, .int .u64 0, .int .u64 0] 58)).setRow w3.heap.size #[.int .u64 (p : Int), .int .u64 (q : Int), .int .u64 (r : Int)]) v p q r er ok ∧ Below w.heap.size w ((w3.alloc (.cells #[.int .u64 0, .int .u64 0, .int .u64 0] 58)).setRow w3.heap.size #[.int .u64 (p : Int), .int .u64 (q : Int), .int .u64 (r : Int)])) := Lib.hid ⟨H6.out.setRow _, hTR4.setRow (m := 0) H6.out _, below_setRow ((R2.out.2.trans (hB3.mono hl1)).alloc (by omega) _) (by omega) _⟩
  clear hTR hTR4 hB3 R2 HSa HSb HSc
  have KP : Hid (∀ W W', (RowAt W w3.heap.size 58 #[.int .u64 (p : Int), .int .u64 (q : Int), .int .u64 (r : Int)] ∧ TR W v p q r er ok ∧ Below w.heap.size w W) → Below W.heap.size W W' → (RowAt W' w3.heap.size 58 #[.int .u64 (p : Int), .int .u64 (q : Int), .int .u64 (r : Int)] ∧ TR W' v p q r er ok ∧ Below w.heap.size w W')) := Lib.hid (fun W W' h hB => ⟨h.1.keep hB, h.2.1.keep hB, h.2.2.trans (hB.mono h.2.2.size)⟩)
  go_wp2_with (first | (refine wpList_store_row rfl _ _ _ rfl _ #[.int .u64 (p : Int), .int .u64 (q : Int), .int .u64 (r : Int)] rfl rfl _ _ (H6.out) size_w3 rfl (one3 _ _ _) ?_; generalize hW4 : (w3.alloc (.cells #[.int .u64 0, .int .u64 0, .int .u64 0] 58)).setRow w3.heap.size #[.int .u64 (p : Int), .int .u64 (q : Int), .int .u64 (r : Int)] = w4 at *) | (at_builtin; refine wpList_clone rfl _ _ rfl w4.heap.size (by simp) _ rfl (HOwn.out w4) A1 c1 L1 rfl (HLx.out w4 K4.out.2.2) (by omega) ?_; intro v5 w5 hO5 hB5; have hBl5 := ((Below.refl w4.heap.size w4).alloc (Nat.le_refl _) (.cells #[] 22)).trans hB5; have K5 := Lib.hid (KP.out _ _ K4.out hBl5); have O5 := Lib.hid hO5; have BL5 := Lib.hid hBl5; clear hO5 hB5 hBl5) | (at_builtin; refine wpList_clone rfl _ _ rfl w5.heap.size (by simp) _ rfl (HOwn.out w5) A2 c2 L2 rfl (HLy.out w5 K5.out.2.2) (by omega) ?_; intro v6 w6 hO6 hB6; have hBl6 := ((Below.refl w5.heap.size w5).alloc (Nat.le_refl _) (.cells #[] 22)).trans hB6; have K6 := Lib.hid (KP.out _ _ K5.out hBl6); have O6 := Lib.hid hO6; have BL6 := Lib.hid hBl6; clear hO6 hB6 hBl6))
  obtain ⟨AU, cU, rfl, hRU⟩ := (O5.out.below BL6.out).rd
  obtain ⟨AV, cV, rfl, hRV⟩ := O6.out.rd
  have HRU := Lib.hid hRU
  have HRV := Lib.hid hRV
  clear hRU hRV O5 O6 BL5 BL6 K4 K5 HLx HLy HOwn H6
  obtain ⟨hp, hq, hr, ⟨rfl, rfl, hT, hV⟩ | ⟨rfl, rfl, her, hno⟩⟩ := K6.out.2.1
  · have HT := Lib.hid hT
    have HN := Lib.hid hT.lt'.2
    have hp3 := hT.p3
    have hq3 := hT.q3
    have hr3 := hT.r3
    have HUn := Lib.hid (xuns_yes hV hT AU AV cU cV L1 L2 (by omega) (by omega) HU1.out HU2.out HRU.out HRV.out)
    have HFt : Hid (∀ W, Below w.heap.size w W → Calls Tryz.prog 29 #[.agg #[.int .u64 (p : Int), .int .u64 (q : Int), .int .u64 (r : Int)], .slice A1 L1.length c1, .slice A2 L2.length c2, .bool false] W fun e w' => e = .returned (.int .i64 (chkX p q r L1.length L2.length (mostL L1).toNat (mostL L2).toNat false)) ∧ Below W.heap.size W w') := Lib.hid (fun W hW => r24fault_any p q r hp hq hr (by omega) (by omega) (by omega) A1 A2 c1 c2 L1 L2 false W (by omega) (by omega) HU1.out HU2.out (HRx.out W hW) (HRy.out W hW))
    obtain ⟨ek, hek⟩ : ∃ ek, ek = chkX p q r L1.length L2.length (mostL L1).toNat (mostL L2).toNat false := ⟨_, rfl⟩
    have HEK := Lib.hid hek
    rw [← hek] at HUn HFt
    obtain ⟨n, hn⟩ : ∃ n, n = L1.length + L2.length - 1 := ⟨_, rfl⟩
    obtain ⟨X, hX⟩ : ∃ X : Nat → Nat, X = fun k => w192 (cI L1 L2 k) := ⟨_, rfl⟩
    rw [← hn, ← hX] at HUn
    have HA0 : Hid (∀ k : Nat, k ≤ 24 → ∀ (b1 b2 : Nat) W, RdB W W.heap.size (some ⟨b1, 0, none⟩) (List.replicate L1.length false) → RdB W W.heap.size (some ⟨b2, 0, none⟩) (List.replicate L2.length false) → Below w.heap.size w W → Calls Tryz.prog 30 #[.slice A1 L1.length c1, .slice (some ⟨b1, 0, none⟩) L1.length L1.length, .slice A2 L2.length c2, .slice (some ⟨b2, 0, none⟩) L2.length L2.length, .int .i64 (k : Int)] W fun e w' => e = .returned (.agg (three (X k))) ∧ Below W.heap.size W w') := Lib.hid (fun k hk b1 b2 W h1 h2 hW => by
      rw [hX]
      exact r24at_any A1 (some ⟨b1, 0, none⟩) A2 (some ⟨b2, 0, none⟩) c1 L1.length c2 L2.length L1 L2 L1 L2 _ _ k W (by omega) (by omega) (by omega) HU1.out HU2.out (sgd_plain L1) (sgd_plain L2) (HRx.out W hW) h1 (HRy.out W hW) h2)
    have HEq : Hid (∀ (k : Nat) W, (Op.equalIn 10000 58 (.agg (tl (X k)).toArray) (.agg (three (X k)))).run Tryz.prog W = .ok true W) := Lib.hid (fun k W => by rw [tl_list, eqn_words _ _ (by rw [hX]; exact w192_lt _) (by rw [hX]; exact w192_lt _)]; simp)
    have HN1 := Lib.hid hn
    clear hV hT hp3 hq3 hr3 hek hn hX hp hq hr
    refine HUn.out.mono ?_
    rintro e w7 ⟨⟨h0, rfl⟩ | ⟨h0, G, rfl, hG, hR⟩, hB7⟩
    · have K7 := Lib.hid (KP.out _ _ K6.out hB7)
      have HRU8 := Lib.hid ((HRU.out.below hB7).mono hB7.size)
      have HRV8 := Lib.hid ((HRV.out.below hB7).mono hB7.size)
      have HR1 := Lib.hid (HRx.out _ K7.out.2.2)
      have HR2 := Lib.hid (HRy.out _ K7.out.2.2)
      have t4 : (ek != 0) = true := by simpa using h0
      have t5 : (ek == ek) = true := by simp
      clear hB7 K6 HRU HRV HUn h0 HA0 HEq
      go_wp2
      go_loopw [49] (fun I wr => ∃ i q : Nat, I = .int .i64 i ∧ i ≤ L1.length ∧ wr = w7.drewN q) (fun I _ => L1.length - (intOf I).toNat)
      case atStart => exact ⟨0, 0, rfl, by omega, rfl⟩
      case round =>
        obtain ⟨i, q49, rfl, hi, rfl⟩ := hrel
        by_cases hlt : i < L1.length
        · obtain ⟨bU, oU, hUe, _, hcU⟩ := HRU8.out (by omega)
          obtain ⟨bA, oA, hAe, _, hcA⟩ := HR1.out (by omega)
          have ga := hcU i hlt
          have gb := hcA i hlt
          obtain ⟨x, hx⟩ : ∃ x, x = L1.getD i 0 := ⟨_, rfl⟩
          rw [← hx] at ga gb
          subst hUe hAe
          have t1 : (x != x) = false := by simp
          clear hcU hcA hx
          go_wp2
          go_quiet (fail)
          go_wp2
          go_roundw
          case rel => exact ⟨i + 1, _, by go_num, by omega, rfl⟩
          case measure => simp [intOf]; omega
        · obtain rfl : i = L1.length := by omega
          clear hlt hi
          go_wp2
          go_loopw [64] (fun I wr => ∃ i q : Nat, I = .int .i64 i ∧ i ≤ L2.length ∧ wr = w7.drewN q) (fun I _ => L2.length - (intOf I).toNat)
          case atStart => exact ⟨0, q49, rfl, by omega, rfl⟩
          case round =>
            obtain ⟨i, q64, rfl, hi, rfl⟩ := hrel
            by_cases hlt : i < L2.length
            · obtain ⟨bU, oU, hUe, _, hcU⟩ := HRV8.out (by omega)
              obtain ⟨bA, oA, hAe, _, hcA⟩ := HR2.out (by omega)
              have ga := hcU i hlt
              have gb := hcA i hlt
              obtain ⟨x, hx⟩ : ∃ x, x = L2.getD i 0 := ⟨_, rfl⟩
              rw [← hx] at ga gb
              subst hUe hAe
              have t1 : (x != x) = false := by simp
              clear hcU hcA hx
              go_wp2
              go_quiet (fail)
              go_wp2
              go_roundw
              case rel => exact ⟨i + 1, _, by go_num, by omega, rfl⟩
              case measure => simp [intOf]; omega
            · obtain rfl : i = L2.length := by omega
              clear hlt hi
              have K8 := Lib.hid (KP.out _ _ K7.out (below_drewN (Below.refl _ _) q64))
              go_wp2_with (refine wpList_load_row rfl _ _ rfl _ rfl _ _ _ _ (K8.out.1) Tryz.underlying58 rfl size_w3 ?_)
              refine (HFt.out _ K8.out.2.2).mono ?_
              rintro e w9 ⟨rfl, hB9⟩
              have HB9 := Lib.hid (K8.out.2.2.trans (hB9.mono K8.out.2.2.size))
              clear hB9
              go_wp2
              go_ret
              exact ⟨by first | rfl | simp, HB9.out⟩
    · have K7 := Lib.hid (KP.out _ _ K6.out hB7)
      have HRU8 := Lib.hid ((HRU.out.below hB7).mono hB7.size)
      have HRV8 := Lib.hid ((HRV.out.below hB7).mono hB7.size)
      have HR1 := Lib.hid (HRx.out _ K7.out.2.2)
      have HR2 := Lib.hid (HRy.out _ K7.out.2.2)
      have HR7 := Lib.hid hR
      obtain ⟨z1, z2, z3, z4, z5⟩ := chkX_zero (HEK.out.symm.trans h0)
      have t5 : ((n : Int) != (L1.length : Int) + (L2.length : Int) - 1) = false := by have := HN1.out; simp; omega
      have KR : Hid (∀ W W', (R3 W G n X ∧ Below w.heap.size w W) → Below W.heap.size W W' → (R3 W' G n X ∧ Below w.heap.size w W')) := Lib.hid (fun W W' h hB => ⟨h.1.keep hB, h.2.trans (hB.mono h.2.size)⟩)
      subst h0
      clear hB7 K6 HRU HRV HUn hR hG z1 z2 z3 z4 z5 HEK
      go_wp2
      go_loopw [49] (fun I wr => ∃ i q : Nat, I = .int .i64 i ∧ i ≤ L1.length ∧ wr = w7.drewN q) (fun I _ => L1.length - (intOf I).toNat)
      case atStart => exact ⟨0, 0, rfl, by omega, rfl⟩
      case round =>
        obtain ⟨i, q49, rfl, hi, rfl⟩ := hrel
        by_cases hlt : i < L1.length
        · obtain ⟨bU, oU, hUe, _, hcU⟩ := HRU8.out (by omega)
          obtain ⟨bA, oA, hAe, _, hcA⟩ := HR1.out (by omega)
          have ga := hcU i hlt
          have gb := hcA i hlt
          obtain ⟨x, hx⟩ : ∃ x, x = L1.getD i 0 := ⟨_, rfl⟩
          rw [← hx] at ga gb
          subst hUe hAe
          have t1 : (x != x) = false := by simp
          clear hcU hcA hx
          go_wp2
          go_quiet (fail)
          go_wp2
          go_roundw
          case rel => exact ⟨i + 1, _, by go_num, by omega, rfl⟩
          case measure => simp [intOf]; omega
        · obtain rfl : i = L1.length := by omega
          clear hlt hi
          go_wp2
          go_loopw [64] (fun I wr => ∃ i q : Nat, I = .int .i64 i ∧ i ≤ L2.length ∧ wr = w7.drewN q) (fun I _ => L2.length - (intOf I).toNat)
          case atStart => exact ⟨0, q49, rfl, by omega, rfl⟩
          case round =>
            obtain ⟨i, q64, rfl, hi, rfl⟩ := hrel
            by_cases hlt : i < L2.length
            · obtain ⟨bU, oU, hUe, _, hcU⟩ := HRV8.out (by omega)
              obtain ⟨bA, oA, hAe, _, hcA⟩ := HR2.out (by omega)
              have ga := hcU i hlt
              have gb := hcA i hlt
              obtain ⟨x, hx⟩ : ∃ x, x = L2.getD i 0 := ⟨_, rfl⟩
              rw [← hx] at ga gb
              subst hUe hAe
              have t1 : (x != x) = false := by simp
              clear hcU hcA hx
              go_wp2
              go_quiet (fail)
              go_wp2
              go_roundw
              case rel => exact ⟨i + 1, _, by go_num, by omega, rfl⟩
              case measure => simp [intOf]; omega
            · obtain rfl : i = L2.length := by omega
              clear hlt hi
              have K8 := Lib.hid (KP.out _ _ K7.out (below_drewN (Below.refl _ _) q64))
              have HR8 := Lib.hid (HR7.out.keep (below_drewN (Below.refl _ _) q64))
              go_wp2_with (refine wpList_load_row rfl _ _ rfl _ rfl _ _ _ _ (K8.out.1) Tryz.underlying58 rfl size_w3 ?_)
              refine (HFt.out _ K8.out.2.2).mono ?_
              rintro e w9 ⟨rfl, hB9⟩
              have K9 := Lib.hid (KP.out _ _ K8.out hB9)
              have Q0 : Hid (R3 w9 G n X ∧ Below w.heap.size w w9) := Lib.hid ⟨HR8.out.keep hB9, K9.out.2.2⟩
              clear hB9 K8 HR8
              have hB9 := Lib.hid (K9.out.2.2)
              by_cases h24 : 24 < n
              · have t6 : decide ((n : Int) > 24) = true := by simp; omega
                clear h24
                go_wp2
                go_ret
                exact ⟨by first | rfl | simp, hB9.out⟩
              · have t6 : decide ((n : Int) > 24) = false := by simp; omega
                have hn24 : n ≤ 24 := by omega
                clear h24
                go_wp2
                go_loopw [122] (fun I wr => ∃ k : Nat, I = .int .i64 k ∧ k ≤ n ∧ Hid (R3 wr G n X ∧ Below w.heap.size w wr)) (fun I _ => n - (intOf I).toNat)
                case atStart => exact ⟨0, rfl, by omega, Q0⟩
                case round =>
                  clear Q0
                  obtain ⟨k, rfl, hk, Q⟩ := hrel
                  by_cases hlt : k < n
                  · have f0 : (0 : Int) ≤ (k : Int) := by omega
                    have f1 : (k : Int) < (n : Int) := by omega
                    have HAt := Lib.hid (HA0.out k (by omega))
                    have HSl : Hid (∀ W, (R3 W G n X ∧ Below w.heap.size w W) → W.rangeAt G (k * 3) (tl (X k))) := Lib.hid (fun W h => h.1.range k hlt)
                    have ee := HEq.out k
                    obtain ⟨x, hx⟩ : ∃ x, x = X k := ⟨_, rfl⟩
                    rw [← hx] at HAt HSl ee
                    clear hx
                    have z0 : Hid (R3 (wr.drewN 1) G n X ∧ Below w.heap.size w (wr.drewN 1)) := Lib.hid (KR.out _ _ Q.out (below_drewN (Below.refl _ _) 1))
                    clear Q
                    go_wp2_with fail
                    change (Code.region _ _ true).wp _ _ _ _
                    refine wp_region_held_drew (S := fun wz => wz.rangeAt G (k * 3) (tl x)) (by kernel_rfl) ((HSl.out _ z0.out)) (fun hHeld => ?_)
                    refine wpAnyH_take (i := 0) (v := ?_) rfl (by kernel_rfl) (by kernel_rfl) (by kernel_rfl) (fun _ _ _ h => h) (Or.inl ⟨by rfl, ?_⟩) (HSl.out _ z0.out) ?_
                    rotate_left
                    · intro w hSw; (try dsimp only at hSw); go_simp; try with_reducible rfl
                    try simp only [Act.put, List.getElem_toArray, List.getElem_cons_zero, List.getElem_cons_succ, List.setIfInBounds_toArray, List.set_cons_zero, List.set_cons_succ]
                    refine wpAnyH_take (i := 1) (v := ?_) rfl (by kernel_rfl) (by kernel_rfl) (by kernel_rfl) (fun _ _ _ h => h) (Or.inl ⟨by rfl, ?_⟩) (HSl.out _ z0.out) ?_
                    rotate_left
                    · intro w hSw; (try dsimp only at hSw); go_simp; try with_reducible rfl
                    try simp only [Act.put, List.getElem_toArray, List.getElem_cons_zero, List.getElem_cons_succ, List.setIfInBounds_toArray, List.set_cons_zero, List.set_cons_succ]
                    refine wpAnyH_take (i := 2) (v := ?_) rfl (by kernel_rfl) (by kernel_rfl) (by kernel_rfl) (fun _ _ _ h => h) (Or.inl ⟨by rfl, ?_⟩) (HSl.out _ z0.out) ?_
                    rotate_left
                    · intro w hSw; (try dsimp only at hSw); go_simp; try with_reducible rfl
                    try simp only [Act.put, List.getElem_toArray, List.getElem_cons_zero, List.getElem_cons_succ, List.setIfInBounds_toArray, List.set_cons_zero, List.set_cons_succ]
                    refine wpAnyH_take (i := 3) rfl (by kernel_rfl) (by kernel_rfl) (by kernel_rfl) (fun _ _ _ h => h) (yieldsIf_load_mid (by rfl) _ _ rfl _ _ rfl _ _ (fun wz h => h) Tryz.underlying69 rfl (by exact size_three)) (HSl.out _ z0.out) ?_
                    try simp only [Act.put, List.getElem_toArray, List.getElem_cons_zero, List.getElem_cons_succ, List.setIfInBounds_toArray, List.set_cons_zero, List.set_cons_succ]
                    refine wpAnyH_take (i := 4) (v := ?_) rfl (by kernel_rfl) (by kernel_rfl) (by kernel_rfl) (fun _ _ _ h => h) (Or.inl ⟨by rfl, ?_⟩) (HSl.out _ z0.out) ?_
                    rotate_left
                    · intro w hSw; (try dsimp only at hSw); go_simp; try with_reducible rfl
                    try simp only [Act.put, List.getElem_toArray, List.getElem_cons_zero, List.getElem_cons_succ, List.setIfInBounds_toArray, List.set_cons_zero, List.set_cons_succ]
                    refine wpAnyH_take (i := 5) (v := ?_) rfl (by kernel_rfl) (by kernel_rfl) (by kernel_rfl) (fun _ _ _ h => h) (Or.inl ⟨by rfl, ?_⟩) (HSl.out _ z0.out) ?_
                    rotate_left
                    · intro w hSw; (try dsimp only at hSw); go_simp; try with_reducible rfl
                    try simp only [Act.put, List.getElem_toArray, List.getElem_cons_zero, List.getElem_cons_succ, List.setIfInBounds_toArray, List.set_cons_zero, List.set_cons_succ]
                    refine wpAnyH_take (i := 6) (v := ?_) rfl (by kernel_rfl) (by kernel_rfl) (by kernel_rfl) (fun _ _ _ h => h) (Or.inl ⟨by rfl, ?_⟩) (HSl.out _ z0.out) ?_
                    rotate_left
                    · intro w hSw; (try dsimp only at hSw); go_simp; try with_reducible rfl
                    try simp only [Act.put, List.getElem_toArray, List.getElem_cons_zero, List.getElem_cons_succ, List.setIfInBounds_toArray, List.set_cons_zero, List.set_cons_succ]
                    refine wpAnyH_take (i := 8) (v := ?_) rfl (by kernel_rfl) (by kernel_rfl) (by kernel_rfl) (fun _ _ _ h => h) (Or.inl ⟨by rfl, ?_⟩) (HSl.out _ z0.out) ?_
                    rotate_left
                    · intro w hSw; (try dsimp only at hSw); go_simp; try with_reducible rfl
                    try simp only [Act.put, List.getElem_toArray, List.getElem_cons_zero, List.getElem_cons_succ, List.setIfInBounds_toArray, List.set_cons_zero, List.set_cons_succ]
                    refine wpAnyH_take (i := 9) (v := ?_) rfl (by kernel_rfl) (by kernel_rfl) (by kernel_rfl) (fun _ _ _ h => h) (Or.inl ⟨by rfl, ?_⟩) (HSl.out _ z0.out) ?_
                    rotate_left
                    · intro w hSw; (try dsimp only at hSw); go_simp; try with_reducible rfl
                    try simp only [Act.put, List.getElem_toArray, List.getElem_cons_zero, List.getElem_cons_succ, List.setIfInBounds_toArray, List.set_cons_zero, List.set_cons_succ]
                    refine wpAnyH_take (i := 10) (v := ?_) rfl (by kernel_rfl) (by kernel_rfl) (by kernel_rfl) (fun _ _ _ h => h) (Or.inl ⟨by rfl, ?_⟩) (HSl.out _ z0.out) ?_
                    rotate_left
                    · intro w hSw; (try dsimp only at hSw); go_simp; try with_reducible rfl
                    try simp only [Act.put, List.getElem_toArray, List.getElem_cons_zero, List.getElem_cons_succ, List.setIfInBounds_toArray, List.set_cons_zero, List.set_cons_succ]
                    refine wpAnyH_take (i := 12) (v := ?_) rfl (by kernel_rfl) (by kernel_rfl) (by kernel_rfl) (fun _ _ _ h => h) (Or.inl ⟨by rfl, ?_⟩) (HSl.out _ z0.out) ?_
                    rotate_left
                    · intro w hSw; (try dsimp only at hSw); go_simp; try with_reducible rfl
                    try simp only [Act.put, List.getElem_toArray, List.getElem_cons_zero, List.getElem_cons_succ, List.setIfInBounds_toArray, List.set_cons_zero, List.set_cons_succ]
                    refine wpAnyH_ready (rs := [7, 11]) (by kernel_rfl) (by simp) ?_
                    refine AllReadyH.cons rfl (fun K hK => ?_) ?_
                    · try simp only [List.getElem_toArray, List.getElem_cons_zero, List.getElem_cons_succ]
                      rw [if_pos (by rfl)]
                      refine wp_make_full _ _ 65 rfl (wr.drewN 1).heap.size 4 ib (.bool false) 1 Tryz.underlying65 hib hb0 hb1 _ _ _ _ L1.length rfl rfl rfl rfl (by rw [hb2]; omega) (by unfold maxLen; omega) (Nat.le_refl _) ?_
                      intro y1 ho1 hg1
                      have hBm1 : Below (wr.drewN 1).heap.size (wr.drewN 1) y1 := (Below.refl _ _).grown hg1 (Nat.le_refl _) (fun k h => by cases h)
                      have RB1 := Lib.hid (bools_new ho1)
                      have z1 := Lib.hid (KR.out _ _ z0.out hBm1)
                      refine hK.out _ _ ((HSl.out _ z1.out)) (fun _ => ?_)
                      clear hK K
                      try simp only [Act.put, List.getElem_toArray, List.getElem_cons_zero, List.getElem_cons_succ, List.setIfInBounds_toArray, List.set_cons_zero, List.set_cons_succ]
                      refine wpAnyH_ready (rs := [11]) (by kernel_rfl) (by simp) ?_
                      refine AllReadyH.cons rfl (fun K hK => ?_) AllReadyH.nil
                      try simp only [List.getElem_toArray, List.getElem_cons_zero, List.getElem_cons_succ]
                      rw [if_pos (by rfl)]
                      refine wp_make_full _ _ 65 rfl y1.heap.size 4 ib (.bool false) 1 Tryz.underlying65 hib hb0 hb1 _ _ _ _ L2.length rfl rfl rfl rfl (by rw [hb2]; omega) (by unfold maxLen; omega) (Nat.le_refl _) ?_
                      intro y2 ho2 hg2
                      have hBm2 : Below y1.heap.size y1 y2 := (Below.refl _ _).grown hg2 (Nat.le_refl _) (fun k h => by cases h)
                      have RB2 := Lib.hid (bools_new ho2)
                      have z2 := Lib.hid (KR.out _ _ z1.out hBm2)
                      have RB3 := Lib.hid ((RB1.out.below hBm2).mono hBm2.size)
                      refine hK.out _ _ ((HSl.out _ z2.out)) (fun _ => ?_)
                      clear hK K
                      try simp only [Act.put, List.getElem_toArray, List.getElem_cons_zero, List.getElem_cons_succ, List.setIfInBounds_toArray, List.set_cons_zero, List.set_cons_succ]
                      refine wpAnyH_ready (rs := [13]) (by kernel_rfl) (by simp) ?_
                      refine AllReadyH.cons rfl (fun K hK => ?_) AllReadyH.nil
                      try simp only [List.getElem_toArray, List.getElem_cons_zero, List.getElem_cons_succ]
                      rw [if_pos (by rfl)]
                      go_wp2_with (go_at_call 30; refine (HAt.out _ _ _ RB3.out RB2.out z2.out.2).mono ?_; rintro e y9 ⟨rfl, hY⟩)
                      have z9 := Lib.hid (KR.out _ _ z2.out hY)
                      clear hY
                      refine hK.out _ _ ((HSl.out _ z9.out)) (fun _ => ?_)
                      clear hK K
                      try simp only [Act.put, List.getElem_toArray, List.getElem_cons_zero, List.getElem_cons_succ, List.setIfInBounds_toArray, List.set_cons_zero, List.set_cons_succ]
                      refine wpAnyH_take (i := 14) (v := ?_) rfl (by kernel_rfl) (by kernel_rfl) (by kernel_rfl) (fun _ _ _ h => h) (Or.inl ⟨by rfl, ?_⟩) (HSl.out _ z9.out) ?_
                      rotate_left
                      · intro w hSw; (try dsimp only at hSw); go_simp; try with_reducible rfl
                      try simp only [Act.put, List.getElem_toArray, List.getElem_cons_zero, List.getElem_cons_succ, List.setIfInBounds_toArray, List.set_cons_zero, List.set_cons_succ]
                      refine wpAnyH_done (by kernel_rfl) ?_ _
                      go_wp2
                      go_roundw
                      case rel => exact ⟨k + 1, by go_num, by omega, z9⟩
                      case measure => simp [intOf]; omega
                    · refine AllReadyH.cons rfl (fun K hK => ?_) AllReadyH.nil
                      try simp only [List.getElem_toArray, List.getElem_cons_zero, List.getElem_cons_succ]
                      rw [if_pos (by rfl)]
                      refine wp_make_full _ _ 65 rfl (wr.drewN 1).heap.size 4 ib (.bool false) 1 Tryz.underlying65 hib hb0 hb1 _ _ _ _ L2.length rfl rfl rfl rfl (by rw [hb2]; omega) (by unfold maxLen; omega) (Nat.le_refl _) ?_
                      intro y1 ho1 hg1
                      have hBm1 : Below (wr.drewN 1).heap.size (wr.drewN 1) y1 := (Below.refl _ _).grown hg1 (Nat.le_refl _) (fun k h => by cases h)
                      have RB1 := Lib.hid (bools_new ho1)
                      have z1 := Lib.hid (KR.out _ _ z0.out hBm1)
                      refine hK.out _ _ ((HSl.out _ z1.out)) (fun _ => ?_)
                      clear hK K
                      try simp only [Act.put, List.getElem_toArray, List.getElem_cons_zero, List.getElem_cons_succ, List.setIfInBounds_toArray, List.set_cons_zero, List.set_cons_succ]
                      refine wpAnyH_ready (rs := [7]) (by kernel_rfl) (by simp) ?_
                      refine AllReadyH.cons rfl (fun K hK => ?_) AllReadyH.nil
                      try simp only [List.getElem_toArray, List.getElem_cons_zero, List.getElem_cons_succ]
                      rw [if_pos (by rfl)]
                      refine wp_make_full _ _ 65 rfl y1.heap.size 4 ib (.bool false) 1 Tryz.underlying65 hib hb0 hb1 _ _ _ _ L1.length rfl rfl rfl rfl (by rw [hb2]; omega) (by unfold maxLen; omega) (Nat.le_refl _) ?_
                      intro y2 ho2 hg2
                      have hBm2 : Below y1.heap.size y1 y2 := (Below.refl _ _).grown hg2 (Nat.le_refl _) (fun k h => by cases h)
                      have RB2 := Lib.hid (bools_new ho2)
                      have z2 := Lib.hid (KR.out _ _ z1.out hBm2)
                      have RB3 := Lib.hid ((RB1.out.below hBm2).mono hBm2.size)
                      refine hK.out _ _ ((HSl.out _ z2.out)) (fun _ => ?_)
                      clear hK K
                      try simp only [Act.put, List.getElem_toArray, List.getElem_cons_zero, List.getElem_cons_succ, List.setIfInBounds_toArray, List.set_cons_zero, List.set_cons_succ]
                      refine wpAnyH_ready (rs := [13]) (by kernel_rfl) (by simp) ?_
                      refine AllReadyH.cons rfl (fun K hK => ?_) AllReadyH.nil
                      try simp only [List.getElem_toArray, List.getElem_cons_zero, List.getElem_cons_succ]
                      rw [if_pos (by rfl)]
                      go_wp2_with (go_at_call 30; refine (HAt.out _ _ _ RB2.out RB3.out z2.out.2).mono ?_; rintro e y9 ⟨rfl, hY⟩)
                      have z9 := Lib.hid (KR.out _ _ z2.out hY)
                      clear hY
                      refine hK.out _ _ ((HSl.out _ z9.out)) (fun _ => ?_)
                      clear hK K
                      try simp only [Act.put, List.getElem_toArray, List.getElem_cons_zero, List.getElem_cons_succ, List.setIfInBounds_toArray, List.set_cons_zero, List.set_cons_succ]
                      refine wpAnyH_take (i := 14) (v := ?_) rfl (by kernel_rfl) (by kernel_rfl) (by kernel_rfl) (fun _ _ _ h => h) (Or.inl ⟨by rfl, ?_⟩) (HSl.out _ z9.out) ?_
                      rotate_left
                      · intro w hSw; (try dsimp only at hSw); go_simp; try with_reducible rfl
                      try simp only [Act.put, List.getElem_toArray, List.getElem_cons_zero, List.getElem_cons_succ, List.setIfInBounds_toArray, List.set_cons_zero, List.set_cons_succ]
                      refine wpAnyH_done (by kernel_rfl) ?_ _
                      go_wp2
                      go_roundw
                      case rel => exact ⟨k + 1, by go_num, by omega, z9⟩
                      case measure => simp [intOf]; omega
                  · obtain rfl : k = n := by omega
                    go_wp2
                    go_ret
                    exact ⟨by first | rfl | simp, Q.out.2⟩
  · clear her hno hp hq hr
    have HUn := Lib.hid (xuns_nil AU AV cU cV L1 L2 w6 (by omega) (by omega) HRU.out HRV.out)
    refine HUn.out.mono ?_
    rintro e w7 ⟨rfl, rfl⟩
    have K7 := K6
    have HRU8 := HRU
    have HRV8 := HRV
    have HR1 := Lib.hid (HRx.out _ K7.out.2.2)
    have HR2 := Lib.hid (HRy.out _ K7.out.2.2)
    clear K6 HRU HRV HUn
    go_wp2
    go_loopw [49] (fun I wr => ∃ i q : Nat, I = .int .i64 i ∧ i ≤ L1.length ∧ wr = w6.drewN q) (fun I _ => L1.length - (intOf I).toNat)
    case atStart => exact ⟨0, 0, rfl, by omega, rfl⟩
    case round =>
      obtain ⟨i, q49, rfl, hi, rfl⟩ := hrel
      by_cases hlt : i < L1.length
      · obtain ⟨bU, oU, hUe, _, hcU⟩ := HRU8.out (by omega)
        obtain ⟨bA, oA, hAe, _, hcA⟩ := HR1.out (by omega)
        have ga := hcU i hlt
        have gb := hcA i hlt
        obtain ⟨x, hx⟩ : ∃ x, x = L1.getD i 0 := ⟨_, rfl⟩
        rw [← hx] at ga gb
        subst hUe hAe
        have t1 : (x != x) = false := by simp
        clear hcU hcA hx
        go_wp2
        go_quiet (fail)
        go_wp2
        go_roundw
        case rel => exact ⟨i + 1, _, by go_num, by omega, rfl⟩
        case measure => simp [intOf]; omega
      · obtain rfl : i = L1.length := by omega
        clear hlt hi
        go_wp2
        go_loopw [64] (fun I wr => ∃ i q : Nat, I = .int .i64 i ∧ i ≤ L2.length ∧ wr = w6.drewN q) (fun I _ => L2.length - (intOf I).toNat)
        case atStart => exact ⟨0, q49, rfl, by omega, rfl⟩
        case round =>
          obtain ⟨i, q64, rfl, hi, rfl⟩ := hrel
          by_cases hlt : i < L2.length
          · obtain ⟨bU, oU, hUe, _, hcU⟩ := HRV8.out (by omega)
            obtain ⟨bA, oA, hAe, _, hcA⟩ := HR2.out (by omega)
            have ga := hcU i hlt
            have gb := hcA i hlt
            obtain ⟨x, hx⟩ : ∃ x, x = L2.getD i 0 := ⟨_, rfl⟩
            rw [← hx] at ga gb
            subst hUe hAe
            have t1 : (x != x) = false := by simp
            clear hcU hcA hx
            go_wp2
            go_quiet (fail)
            go_wp2
            go_roundw
            case rel => exact ⟨i + 1, _, by go_num, by omega, rfl⟩
            case measure => simp [intOf]; omega
          · obtain rfl : i = L2.length := by omega
            clear hlt hi
            have K8 := Lib.hid (KP.out _ _ K7.out (below_drewN (Below.refl _ _) q64))
            go_wp2
            go_ret
            exact ⟨by first | rfl | simp, K8.out.2.2⟩
end Go.Proofs.YtemoginoanhjlaaGreat
