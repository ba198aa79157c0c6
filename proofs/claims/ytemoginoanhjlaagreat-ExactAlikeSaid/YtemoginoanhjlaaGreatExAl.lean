/- The law ExactAlike. -/
import Derived.Test.YtemoginoanhjlaaGreatWAl24ExBo
import Derived.Test.YtemoginoanhjlaaGreatEx24A
import Derived.Test.YtemoginoanhjlaaGreatExAlM
import Derived.Maps.AppendAt
set_option linter.unusedVariables false
set_option linter.unusedSimpArgs false
set_option linter.unusedSectionVars false
set_option linter.unusedVariables false
set_option linter.unusedSimpArgs false
namespace Go.Proofs.YtemoginoanhjlaaGreat
open Go.RowKit
open Alg (Prime)
set_option maxHeartbeats 16000000 in
set_option maxRecDepth 100000 in
theorem exactAlike_walk (w : World) (Aa : Option Addr) (ca : Nat) (kinda kka ppa : Int) (esa : List Ent) (Ab : Option Addr) (cb : Nat) (kindb kkb ppb : Int) (esb : List Ent) (Ac : Option Addr) (cc : Nat) (kindc kkc ppc : Int) (esc : List Ent) (A1 : Option Addr) (c1 : Nat) (L1 : List Int) (A2 : Option Addr) (c2 : Nat) (L2 : List Int) (hsa : SrcA w Aa ca kinda kka ppa esa) (hsb : SrcA w Ab cb kindb kkb ppb esb) (hsc : SrcA w Ac cc kindc kkc ppc esc) (hl1 : LstI w A1 c1 L1) (hl2 : LstI w A2 c2 L2) :
    Calls Tryz.prog 9 #[.agg #[.int .i64 kinda, .int .i64 kka, .int .u64 ppa, .slice Aa esa.length ca, .int .i64 kindb, .int .i64 kkb, .int .u64 ppb, .slice Ab esb.length cb, .int .i64 kindc, .int .i64 kkc, .int .u64 ppc, .slice Ac esc.length cc], .slice A1 L1.length c1, .slice A2 L2.length c2] w fun e w' => e = .returned (.bool true) ∧ Below w.heap.size w w' := by
  obtain ⟨ii, hii, hy0, hy1, hy2⟩ := info_parts info_i64x
  have HU1 := Lib.hid hl1.hU
  have HU2 := Lib.hid hl2.hU
  have hLm := hl1.hl
  have hMm := hl2.hl
  have HRx : Hid (∀ W, Below w.heap.size w W → RdI W W.heap.size .i64 A1 L1) := Lib.hid (fun W hW => (hl1.below hW).hR)
  have HRy : Hid (∀ W, Below w.heap.size w W → RdI W W.heap.size .i64 A2 L2) := Lib.hid (fun W hW => (hl2.below hW).hR)
  clear hl1 hl2
  have R0 := Lib.hid (lay1 w 55 #[.int .i64 kinda, .int .i64 kka, .int .u64 ppa, .slice Aa esa.length ca, .int .i64 kindb, .int .i64 kkb, .int .u64 ppb, .slice Ab esb.length cb, .int .i64 kindc, .int .i64 kkc, .int .u64 ppc, .slice Ac esc.length cc])
  have HSa := Lib.hid hsa
  have HSb := Lib.hid hsb
  have HSc := Lib.hid hsc
  have hz : ∀ w, (zeroValue 69).run Tryz.prog w = .ok (.agg #[.int .u64 0, .int .u64 0, .int .u64 0]) w := (zero_of_info info_three).1
  have hz3 : ∀ w, (zeroValue 58).run Tryz.prog w = .ok (.agg #[.int .u64 0, .int .u64 0, .int .u64 0]) w := (zero_of_info info_w3).1
  clear hsa hsb hsc
  go_enter Tryz.func9, Tryz.ntmps9
  go_wp2_with fail
  generalize (w.alloc (.cells #[.int .i64 kinda, .int .i64 kka, .int .u64 ppa, .slice Aa esa.length ca, .int .i64 kindb, .int .i64 kkb, .int .u64 ppb, .slice Ab esb.length cb, .int .i64 kindc, .int .i64 kkc, .int .u64 ppc, .slice Ac esc.length cc] 55)) = w1 at *
  refine (alive24_any w1).mono ?_
  rintro e w2 ⟨rfl, hB2⟩
  have R2 : Hid (RowAt w2 w.heap.size 55 #[.int .i64 kinda, .int .i64 kka, .int .u64 ppa, .slice Aa esa.length ca, .int .i64 kindb, .int .i64 kkb, .int .u64 ppb, .slice Ab esb.length cb, .int .i64 kindc, .int .i64 kkc, .int .u64 ppc, .slice Ac esc.length cc] ∧ Below w.heap.size w w2) := Lib.hid ⟨R0.out.1.keep hB2, R0.out.2.trans (hB2.mono R0.out.2.size)⟩
  clear hB2 R0
  go_wp2_with (refine wpList_load_row rfl _ _ rfl _ rfl _ _ _ _ (R2.out.1) Tryz.underlying55 rfl (by exact size_threes) ?_)
  refine (trio_any w2 Aa ca kinda kka ppa esa Ab cb kindb kkb ppb esb Ac cc kindc kkc ppc esc (HSa.out.below R2.out.2) (HSb.out.below R2.out.2) (HSc.out.below R2.out.2)).mono ?_
  rintro e w3 ⟨v, p, q, r, er, ok, rfl, hTR, hB3⟩
  have hl1 := R2.out.2.size
  have hl2 := hB3.size
  have H6 := Lib.hid (RowAt.new w3 58 #[.int .u64 0, .int .u64 0, .int .u64 0])
  have hTR4 : TR (w3.alloc (.cells #[.int .u64 0, .int .u64 0, .int .u64 0] 58)) v p q r er ok := hTR.keep ((Below.refl w3.heap.size w3).alloc (Nat.le_refl _) _)
  have K4 : Hid (RowAt ((w3.alloc (.cells #[.int .u64 0, .int .u64 0, .int .u64 0] 58)).setRow w3.heap.size #[.int .u64 (p : Int), .int .u64 (q : Int), .int .u64 (r : Int)]) w3.heap.size 58 #[.int .u64 (p : Int), .int .u64 (q : Int), .int .u64 (r : Int)] ∧ TR ((w3.alloc (.cells #[.int .u64 0, .int .u64 0, .int .u64 0] 58)).setRow w3.heap.size #[.int .u64 (p : Int), .int .u64 (q : Int), .int .u64 (r : Int)]) v p q r er ok ∧ Below w.heap.size w ((w3.alloc (.cells #[.int .u64 0, .int .u64 0, .int .u64 0] 58)).setRow w3.heap.size #[.int .u64 (p : Int), .int .u64 (q : Int), .int .u64 (r : Int)])) := Lib.hid ⟨H6.out.setRow _, hTR4.setRow (m := 0) H6.out _, below_setRow ((R2.out.2.trans (hB3.mono hl1)).alloc (by omega) _) (by omega) _⟩
  clear hTR hTR4 hB3 R2 HSa HSb HSc
  have KP : Hid (∀ W W', (RowAt W w3.heap.size 58 #[.int .u64 (p : Int), .int .u64 (q : Int), .int .u64 (r : Int)] ∧ TR W v p q r er ok ∧ Below w.heap.size w W) → Below W.heap.size W W' → (RowAt W' w3.heap.size 58 #[.int .u64 (p : Int), .int .u64 (q : Int), .int .u64 (r : Int)] ∧ TR W' v p q r er ok ∧ Below w.heap.size w W')) := Lib.hid (fun W W' h hB => ⟨h.1.keep hB, h.2.1.keep hB, h.2.2.trans (hB.mono h.2.2.size)⟩)
  obtain ⟨hp, hq, hr, ⟨rfl, rfl, hT, hV⟩ | ⟨rfl, rfl, her, hno⟩⟩ := K4.out.2.1
  · by_cases hlong1 : 30 < L1.length
    · have t0 : decide ((30 : Int) < L1.length) = true := by simp; omega
      clear hLm hMm hlong1 hT hV
      go_wp2_with (refine wpList_store_row rfl _ _ _ rfl _ #[.int .u64 (p : Int), .int .u64 (q : Int), .int .u64 (r : Int)] rfl rfl _ _ (H6.out) size_w3 rfl (one3 _ _ _) ?_; generalize hW4 : (w3.alloc (.cells #[.int .u64 0, .int .u64 0, .int .u64 0] 58)).setRow w3.heap.size #[.int .u64 (p : Int), .int .u64 (q : Int), .int .u64 (r : Int)] = w4 at *)
      go_ret
      exact ⟨rfl, K4.out.2.2⟩
    have t0 : decide ((30 : Int) < L1.length) = false := by simp; omega
    by_cases hlong2 : 30 < L2.length
    · have t0' : decide ((30 : Int) < L2.length) = true := by simp; omega
      clear hLm hMm hlong1 hlong2 hT hV
      go_wp2_with (refine wpList_store_row rfl _ _ _ rfl _ #[.int .u64 (p : Int), .int .u64 (q : Int), .int .u64 (r : Int)] rfl rfl _ _ (H6.out) size_w3 rfl (one3 _ _ _) ?_; generalize hW4 : (w3.alloc (.cells #[.int .u64 0, .int .u64 0, .int .u64 0] 58)).setRow w3.heap.size #[.int .u64 (p : Int), .int .u64 (q : Int), .int .u64 (r : Int)] = w4 at *)
      go_ret
      exact ⟨rfl, K4.out.2.2⟩
    have t0' : decide ((30 : Int) < L2.length) = false := by simp; omega
    have hL1 : L1.length ≤ 30 := by omega
    have hL2 : L2.length ≤ 30 := by omega
    clear hLm hMm hlong1 hlong2
    have HT := Lib.hid hT
    have HV := Lib.hid hV
    have hp3 := hT.p3
    have hq3 := hT.q3
    have hr3 := hT.r3
    have HSpA := Lib.hid (fun W (hW : Below w.heap.size w W) => split24_any A1 c1 L1 W (by omega) HU1.out (HRx.out W hW))
    have HSpB := Lib.hid (fun W (hW : Below w.heap.size w W) => split24_any A2 c2 L2 W (by omega) HU2.out (HRy.out W hW))
    have HFt : Hid (∀ (X Y : Option Addr) (cx cy : Nat) W, RdI W W.heap.size .u64 X (sizesL L1) → RdI W W.heap.size .u64 Y (sizesL L2) → Calls Tryz.prog 29 #[.agg #[.int .u64 (p : Int), .int .u64 (q : Int), .int .u64 (r : Int)], .slice X L1.length cx, .slice Y L2.length cy, .bool true] W fun e w' => e = .returned (.int .i64 (chkX p q r L1.length L2.length (mostL (sizesL L1)).toNat (mostL (sizesL L2)).toNat true)) ∧ Below W.heap.size W w') := Lib.hid (fun X Y cx cy W hX hY => by
      have h := r24fault_any p q r hp hq hr (by omega) (by omega) (by omega) X Y cx cy (sizesL L1) (sizesL L2) true W (by rw [sizesL_length]; omega) (by rw [sizesL_length]; omega) (sizesL_u64 HU1.out) (sizesL_u64 HU2.out) hX hY
      rw [sizesL_length, sizesL_length] at h
      exact h)
    obtain ⟨ek, hek⟩ : ∃ ek, ek = chkX p q r L1.length L2.length (mostL (sizesL L1)).toNat (mostL (sizesL L2)).toNat true := ⟨_, rfl⟩
    have HEK := Lib.hid hek
    rw [← hek] at HFt
    clear hV hT hp3 hq3 hr3 hek hp hq hr
    go_wp2_with (refine wpList_store_row rfl _ _ _ rfl _ #[.int .u64 (p : Int), .int .u64 (q : Int), .int .u64 (r : Int)] rfl rfl _ _ (H6.out) size_w3 rfl (one3 _ _ _) ?_; generalize hW4 : (w3.alloc (.cells #[.int .u64 0, .int .u64 0, .int .u64 0] 58)).setRow w3.heap.size #[.int .u64 (p : Int), .int .u64 (q : Int), .int .u64 (r : Int)] = w4 at *)
    clear H6
    refine (HSpA.out _ K4.out.2.2).mono ?_
    rintro e w5 ⟨vU, vS, rfl, hO5, hb5, hB5⟩
    have K5 := Lib.hid (KP.out _ _ K4.out hB5)
    have HV5 := Lib.hid ((HV.out.below hB5).mono hB5.size)
    obtain ⟨xU, dU, rfl, hRU⟩ := hO5.rd
    have HU5 := Lib.hid hRU
    clear hO5 hb5 hRU hB5 K4 HV
    go_wp2_with fail
    refine (HSpB.out _ K5.out.2.2).mono ?_
    rintro e w6 ⟨vV, vT, rfl, hO6, hb6, hB6⟩
    have K6 := Lib.hid (KP.out _ _ K5.out hB6)
    have HV6 := Lib.hid ((HV5.out.below hB6).mono hB6.size)
    obtain ⟨xV, dV, rfl, hRV⟩ := hO6.rd
    have HW6 := Lib.hid hRV
    have HU6 := Lib.hid ((HU5.out.below hB6).mono hB6.size)
    clear hO6 hb6 hRV hB6 K5 HU5 HV5
    go_wp2_with (refine wpList_load_row rfl _ _ rfl _ rfl _ _ _ _ (K6.out.1) Tryz.underlying58 rfl size_w3 ?_)
    refine (HFt.out _ _ _ _ _ HU6.out HW6.out).mono ?_
    rintro e w7 ⟨rfl, hB7⟩
    have K7 := Lib.hid (KP.out _ _ K6.out hB7)
    have HV7 := Lib.hid ((HV6.out.below hB7).mono hB7.size)
    have HU7 := Lib.hid ((HU6.out.below hB7).mono hB7.size)
    have HW7 := Lib.hid ((HW6.out.below hB7).mono hB7.size)
    have HB7 : Hid (Below w.heap.size w w7) := Lib.hid K7.out.2.2
    clear hB7 K6 HV6 HU6 HW6 HFt HSpA HSpB
    by_cases h0 : ek = 0
    · have HE0 : Hid (chkX p q r L1.length L2.length (mostL (sizesL L1)).toNat (mostL (sizesL L2)).toNat true = 0) := Lib.hid (by rw [← HEK.out, h0])
      subst h0
      clear HEK K7
      go_wp2
      go_loopw [71] (fun I wr => ∃ k : Nat, I = .int .i64 k ∧ k ≤ L1.length ∧ Hid (∀ i, i < k → L1.getD i 0 ≠ -9223372036854775808) ∧ w7 = wr) (fun I _ => L1.length - (intOf I).toNat)
      case atStart => exact ⟨0, rfl, by omega, Lib.hid (fun i hi => by omega), rfl⟩
      case round =>
        obtain ⟨k, rfl, hk, HM, rfl⟩ := hrel
        by_cases hlt : k < L1.length
        · obtain ⟨b, o, hAe, hb, hc⟩ := (HRx.out _ HB7.out) (by omega)
          have c0 := hc k hlt
          obtain ⟨x, hx⟩ : ∃ x, x = L1.getD k 0 := ⟨_, rfl⟩
          rw [← hx] at c0
          have HX := Lib.hid hx
          subst hAe
          clear hc hx
          by_cases hm : x = -9223372036854775808
          · have t1 : (x == -9223372036854775808) = true := by simpa using hm
            clear hm
            go_wp2
            go_ret
            exact ⟨rfl, HB7.out⟩
          · have t1 : (x == -9223372036854775808) = false := by simpa using hm
            have HM2 : Hid (∀ i, i < k + 1 → L1.getD i 0 ≠ -9223372036854775808) := Lib.hid (nomin_step HM.out (by rw [← HX.out]; exact hm))
            clear hm HM
            go_wp2
            go_roundw
            case rel => exact ⟨k + 1, by go_num, by omega, HM2, by first | rfl | trivial⟩
            case measure => simp [intOf]; omega
        · obtain rfl : k = L1.length := by omega
          clear hlt hk
          have hs7 : w.heap.size ≤ w7.heap.size := HB7.out.size
          obtain ⟨Tn, hTn⟩ : ∃ T, T = turnL L1 := ⟨_, rfl⟩
          obtain ⟨Up, hUp⟩ : ∃ T, T = sizesL L1 := ⟨_, rfl⟩
          have HG : Hid (∀ k, k < L1.length → Tn.length = L1.length ∧ Up.length = L1.length ∧ Tn.getD k 0 = -(L1.getD k 0) ∧ Up.getD k 0 = ((L1.getD k 0).natAbs : Int)) := Lib.hid (fun k hk => by rw [hTn, hUp]; exact ⟨turnL_length _, sizesL_length _, turnL_get _ _, sizesL_get _ _⟩)
          have HTU := Lib.hid (And.intro hTn hUp)
          clear hTn hUp
          go_wp2
          go_loopw [16, 17, 80] (fun O Po I wr => ∃ (k : Nat) (Ov Pv : Value), Ov = O ∧ Pv = Po ∧ I = .int .i64 k ∧ k ≤ L1.length ∧ wr.ownsRow w7.heap.size 3 1 Ov k (ints .i64 (Tn.take k)) ∧ wr.ownsRow w7.heap.size 3 1 Pv k (ints .i64 (Up.take k)) ∧ (Ov.ownBlock = none ∨ Ov.ownBlock ≠ Pv.ownBlock) ∧ (Pv.ownBlock = none ∨ Pv.ownBlock ≠ Ov.ownBlock) ∧ Below w7.heap.size w7 wr) (fun _ _ I _ => L1.length - (intOf I).toNat)
          case atStart => exact ⟨0, _, _, rfl, rfl, rfl, by omega, World.ownsRow_nil _ _ _ _, World.ownsRow_nil _ _ _ _, .inl rfl, .inl rfl, Below.refl _ _⟩
          case round =>
            obtain ⟨k, O, P, rfl, rfl, rfl, hk, hown, howp, hn1, hn2, hB⟩ := hrel
            have hws := hB.size
            by_cases hlt : k < L1.length
            · obtain ⟨b, o, hAe, hb, hc⟩ := (HRx.out _ HB7.out) (by omega)
              have c0 := cell_keep hB hb (hc k hlt)
              obtain ⟨g1, g2, g3, g4⟩ := HG.out k hlt
              have hx0 := i64s_at HU1.out hlt
              have hxm := HM.out k hlt
              obtain ⟨x, hx⟩ : ∃ x, x = L1.getD k 0 := ⟨_, rfl⟩
              rw [← hx] at c0 g3 g4 hx0 hxm
              have hS := Lib.hid (fun wz => r24size_any x hx0.1 hx0.2 wz)
              obtain ⟨y, hy⟩ : ∃ y, y = x.natAbs := ⟨_, rfl⟩
              rw [← hy] at hS g4
              have hyb : y ≤ 9223372036854775807 := by omega
              have twn : IntKind.i64.wrap (-x) = -x := IntWalk.i64_in _ (by omega)
              have twy : IntKind.i64.wrap (y : Int) = (y : Int) := IntWalk.i64_in _ (by omega)
              obtain ⟨nx, hnx⟩ : ∃ n, n = -x := ⟨_, rfl⟩
              have en : -x = nx := hnx.symm
              rw [← hnx] at g3 twn
              have HS3 := Lib.hid (ints_snocI (M := Tn) (k := k) (by omega))
              have HS4 := Lib.hid (ints_snocI (M := Up) (k := k) (by omega))
              rw [g3] at HS3
              rw [g4] at HS4
              have HO1 := Lib.hid hown
              have HP1 := Lib.hid howp
              have HN := Lib.hid (And.intro hn1 hn2)
              subst hAe
              clear hx hc hy g1 g2 g3 g4 hown howp hn1 hn2 hnx hxm
              go_wp2_with (at_builtin; refine wpList_append_own_at _ rfl _ _ 56 rfl w7.heap.size 3 ii (.int .i64 0) 1 8 Tryz.underlying56 hii hy0 hy1 hy2 rfl (by decide) _ _ _ rfl (World.ownsRow.alloc HO1.out _) ⟨wr.heap.size, 0, none⟩ 1 1 [.int .i64 nx] rfl rfl ?c1 ?c2 ?c3 ?c4 ?c5 ?_)
              case c1 =>
                intro j u hj
                match j, hj with
                | 0, hj => simp at hj; subst hj; simp [Addr.add]
              case c2 => intro u hu; simp at hu; subst hu; rfl
              case c3 => unfold maxLen; omega
              case c4 => omega
              case c5 => simp; omega
              intro v6 w8 hown8 hgrow8 _ hat8
              have hO8 : w8.ownsRow w7.heap.size 3 1 v6 (k + 1) (ints .i64 (Tn.take (k + 1))) := by rw [HS3.out]; exact hown8
              have hP8 : w8.ownsRow w7.heap.size 3 1 P k (ints .i64 (Up.take k)) := (World.ownsRow.alloc HP1.out _).kept hgrow8 HN.out.2
              have hB8 := (hB.alloc hws (.cells #[.int .i64 nx] 3)).grown hgrow8 (by simp; omega) (fun k hk => (World.ownsRow.lt HO1.out k hk).1)
              have hs8 := hB8.size
              have hne8 : (v6.ownBlock = none ∨ v6.ownBlock ≠ P.ownBlock) ∧ (P.ownBlock = none ∨ P.ownBlock ≠ v6.ownBlock) := by
                have hlt' := World.ownsRow.lt HP1.out
                rcases hat8 with h1 | h1
                · rw [h1]; exact HN.out
                · have hP : ∀ g, P.ownBlock = some g → g < wr.heap.size := fun g hg => (hlt' g hg).2
                  rw [h1]
                  refine ⟨.inr fun e => ?_, ?_⟩
                  · have := hP _ e.symm; first | omega | (simp at this; omega) | (simp at this)
                  · cases hPo : P.ownBlock with
                    | none => exact .inl rfl
                    | some g => refine .inr fun e => ?_; have := hP _ hPo; have e2 := Option.some.inj e; first | omega | (simp at e2; omega)
              have HO2 := Lib.hid hO8
              have HP2 := Lib.hid hP8
              have HN2 := Lib.hid hne8
              clear hown8 hgrow8 hO8 hP8 hat8 hne8 HO1 HP1 HN HS3 c0 en twn
              go_wp2_with fail
              refine (hS.out _).mono ?_
              rintro r w9 ⟨rfl, rfl⟩
              go_wp2_with (at_builtin; refine wpList_append_own_at _ rfl _ _ 56 rfl w7.heap.size 3 ii (.int .i64 0) 1 8 Tryz.underlying56 hii hy0 hy1 hy2 rfl (by decide) _ _ _ rfl (World.ownsRow.alloc HP2.out _) ⟨w8.heap.size, 0, none⟩ 1 1 [.int .i64 (y : Int)] rfl rfl ?d1 ?d2 ?d3 ?d4 ?d5 ?_)
              case d1 =>
                intro j u hj
                match j, hj with
                | 0, hj => simp at hj; subst hj; simp [Addr.add]
              case d2 => intro u hu; simp at hu; subst hu; rfl
              case d3 => unfold maxLen; omega
              case d4 => omega
              case d5 => simp; omega
              intro v9 w10 hown10 hgrow10 _ hat10
              have hP10 : w10.ownsRow w7.heap.size 3 1 v9 (k + 1) (ints .i64 (Up.take (k + 1))) := by rw [HS4.out]; exact hown10
              have hO10 : w10.ownsRow w7.heap.size 3 1 v6 (k + 1) (ints .i64 (Tn.take (k + 1))) := (World.ownsRow.alloc HO2.out _).kept hgrow10 HN2.out.1
              have hB10 := (hB8.alloc hs8 (.cells #[.int .i64 (y : Int)] 3)).grown hgrow10 (by simp; omega) (fun k hk => (World.ownsRow.lt HP2.out k hk).1)
              have hne10 : (v6.ownBlock = none ∨ v6.ownBlock ≠ v9.ownBlock) ∧ (v9.ownBlock = none ∨ v9.ownBlock ≠ v6.ownBlock) := by
                have hlt' := World.ownsRow.lt HO2.out
                rcases hat10 with h1 | h1
                · rw [h1]; exact HN2.out
                · have hP : ∀ g, v6.ownBlock = some g → g < w8.heap.size := fun g hg => (hlt' g hg).2
                  rw [h1]
                  refine ⟨?_, .inr fun e => ?_⟩
                  · cases hPo : v6.ownBlock with
                    | none => exact .inl rfl
                    | some g => refine .inr fun e => ?_; have := hP _ hPo; have e2 := Option.some.inj e; first | omega | (simp at e2; omega)
                  · have := hP _ e.symm; first | omega | (simp at this; omega) | (simp at this)
              have HF := Lib.hid (And.intro hO10 (And.intro hP10 hne10))
              clear hown10 hgrow10 hO10 hP10 hat10 hne10 HO2 HP2 HN2 HS4 twy
              go_wp2
              go_roundw
              case rel => exact ⟨k + 1, _, _, rfl, rfl, by go_num, by omega, HF.out.1, HF.out.2.1, HF.out.2.2.1, HF.out.2.2.2, hB10⟩
              case measure => simp [intOf]; omega
            · obtain rfl : k = L1.length := by omega
              clear hlt hk hn1 hn2
              obtain ⟨wq, hwq⟩ : ∃ wq, wq = wr := ⟨_, rfl⟩
              subst hwq
              have hle : Tn.length = L1.length ∧ Up.length = L1.length := by rw [HTU.out.1, HTU.out.2]; exact ⟨turnL_length _, sizesL_length _⟩
              rw [List.take_of_length_le (by omega)] at hown howp
              obtain ⟨xO, dO, hOe, hRO⟩ := RdI.of_own (xs := Tn) (by rw [hle.1]; exact hown)
              obtain ⟨xP, dP, hPe, hRP⟩ := RdI.of_own (xs := Up) (by rw [hle.2]; exact howp)
              rw [hle.1] at hOe
              rw [hle.2] at hPe
              subst hOe hPe
              have HRO := Lib.hid hRO
              have HRP := Lib.hid hRP
              have HBq := Lib.hid (HB7.out.trans (hB.mono hs7))
              have HVq := Lib.hid ((HV7.out.below hB).mono hB.size)
              have HUq := Lib.hid ((HU7.out.below hB).mono hB.size)
              have HWq := Lib.hid ((HW7.out.below hB).mono hB.size)
              obtain ⟨Pl, hPl⟩ : ∃ T, T = sizesL L2 := ⟨_, rfl⟩
              have HG2 : Hid (∀ k, k < L2.length → Pl.length = L2.length ∧ Pl.getD k 0 = ((L2.getD k 0).natAbs : Int)) := Lib.hid (fun k hk => by rw [hPl]; exact ⟨sizesL_length _, sizesL_get _ _⟩)
              have HPL := Lib.hid hPl
              clear hown howp hRO hRP hle hPl HV7 HU7 HW7 HG
              go_wp2
              go_loopw [18, 98] (fun O I wr => ∃ (k : Nat) (Ov : Value), Ov = O ∧ I = .int .i64 k ∧ k ≤ L2.length ∧ wr.ownsRow wq.heap.size 3 1 Ov k (ints .i64 (Pl.take k)) ∧ Hid (∀ i, i < k → L2.getD i 0 ≠ -9223372036854775808) ∧ Below wq.heap.size wq wr) (fun _ I _ => L2.length - (intOf I).toNat)
              case atStart => exact ⟨0, _, rfl, rfl, by omega, World.ownsRow_nil _ _ _ _, Lib.hid (fun i hi => by omega), Below.refl _ _⟩
              case round =>
                obtain ⟨k, O, rfl, rfl, hk, hown, HM2, hB⟩ := hrel
                have hws := hB.size
                by_cases hlt : k < L2.length
                · obtain ⟨b, o, hAe, hb, hc⟩ := (HRy.out _ HBq.out) (by omega)
                  have c0 := cell_keep hB hb (hc k hlt)
                  obtain ⟨g1, g4⟩ := HG2.out k hlt
                  have hx0 := i64s_at HU2.out hlt
                  obtain ⟨x, hx⟩ : ∃ x, x = L2.getD k 0 := ⟨_, rfl⟩
                  rw [← hx] at c0 g4 hx0
                  have HX := Lib.hid hx
                  have hS := Lib.hid (fun wz => r24size_any x hx0.1 hx0.2 wz)
                  subst hAe
                  clear hx hc
                  by_cases hm : x = -9223372036854775808
                  · have t1 : (x == -9223372036854775808) = true := by simpa using hm
                    clear hm
                    go_wp2
                    go_ret
                    exact ⟨rfl, HBq.out.trans (hB.mono HBq.out.size)⟩
                  · have t1 : (x == -9223372036854775808) = false := by simpa using hm
                    have HM3 : Hid (∀ i, i < k + 1 → L2.getD i 0 ≠ -9223372036854775808) := Lib.hid (nomin_step HM2.out (by rw [← HX.out]; exact hm))
                    obtain ⟨y, hy⟩ : ∃ y, y = x.natAbs := ⟨_, rfl⟩
                    rw [← hy] at hS g4
                    have hyb : y ≤ 9223372036854775807 := by omega
                    have twy : IntKind.i64.wrap (y : Int) = (y : Int) := IntWalk.i64_in _ (by omega)
                    have HS4 := Lib.hid (ints_snocI (M := Pl) (k := k) (by omega))
                    rw [g4] at HS4
                    have HO1 := Lib.hid hown
                    clear hm HM2 hown g1 g4 hy
                    go_wp2_with fail
                    refine (hS.out _).mono ?_
                    rintro r w9 ⟨rfl, rfl⟩
                    go_wp2_with (at_builtin; refine wpList_append_own_at _ rfl _ _ 56 rfl wq.heap.size 3 ii (.int .i64 0) 1 8 Tryz.underlying56 hii hy0 hy1 hy2 rfl (by decide) _ _ _ rfl (World.ownsRow.alloc HO1.out _) ⟨wr.heap.size, 0, none⟩ 1 1 [.int .i64 (y : Int)] rfl rfl ?e1 ?e2 ?e3 ?e4 ?e5 ?_)
                    case e1 =>
                      intro j u hj
                      match j, hj with
                      | 0, hj => simp at hj; subst hj; simp [Addr.add]
                    case e2 => intro u hu; simp at hu; subst hu; rfl
                    case e3 => unfold maxLen; omega
                    case e4 => omega
                    case e5 => simp; omega
                    intro v9 w10 hown10 hgrow10 _ _
                    have hP10 : w10.ownsRow wq.heap.size 3 1 v9 (k + 1) (ints .i64 (Pl.take (k + 1))) := by rw [HS4.out]; exact hown10
                    have hB10 := (hB.alloc hws (.cells #[.int .i64 (y : Int)] 3)).grown hgrow10 (by simp; omega) (fun k hk => (World.ownsRow.lt HO1.out k hk).1)
                    have HF := Lib.hid hP10
                    clear hown10 hgrow10 hP10 HO1 HS4 twy c0
                    go_wp2
                    go_roundw
                    case rel => exact ⟨k + 1, _, rfl, by go_num, by omega, HF.out, HM3, hB10⟩
                    case measure => simp [intOf]; omega
                · obtain rfl : k = L2.length := by omega
                  clear hlt hk
                  obtain ⟨wp, hwp⟩ : ∃ wp, wp = wr := ⟨_, rfl⟩
                  subst hwp
                  have hle : Pl.length = L2.length := by rw [HPL.out]; exact sizesL_length _
                  rw [List.take_of_length_le (by omega)] at hown
                  obtain ⟨xQ, dQ, hQe, hRQ⟩ := RdI.of_own (xs := Pl) (by rw [hle]; exact hown)
                  rw [hle] at hQe
                  subst hQe
                  have HBp := Lib.hid (HBq.out.trans (hB.mono HBq.out.size))
                  have HVp := Lib.hid ((HVq.out.below hB).mono hB.size)
                  have HUp := Lib.hid ((HUq.out.below hB).mono hB.size)
                  have HWp := Lib.hid ((HWq.out.below hB).mono hB.size)
                  have HOp := Lib.hid ((HRO.out.below hB).mono hB.size)
                  have HPp := Lib.hid ((HRP.out.below hB).mono hB.size)
                  have HQp := Lib.hid hRQ
                  have HRx0 := Lib.hid (HRx.out _ HBp.out)
                  have HRy0 := Lib.hid (HRy.out _ HBp.out)
                  have hlen : Tn = turnL L1 ∧ Up = sizesL L1 ∧ Pl = sizesL L2 := ⟨HTU.out.1, HTU.out.2, HPL.out⟩
                  obtain ⟨eT, eU, eP⟩ := hlen
                  subst eT eU eP
                  clear hown hRQ hle HVq HUq HWq HRO HRP HBq hB HG2 hws
                  have HC0 : Hid (∀ W, Below wp.heap.size wp W → Calls Tryz.prog 27 #[v, .slice A1 L1.length c1, .slice A2 L2.length c2] W fun e w' => ∃ G, e = .returned (.tuple #[.slice (some ⟨G, 0, none⟩) (L1.length + L2.length - 1) (L1.length + L2.length - 1), .int .i64 0]) ∧ W.heap.size ≤ G ∧ R3 w' G (L1.length + L2.length - 1) (fun k => w192 (cI L1 L2 k)) ∧ Below W.heap.size W w') := Lib.hid (fun W hW => (xsgn_yes ((HVp.out.below hW).mono hW.size) HT.out A1 A2 c1 c2 L1 L2 (by omega) (by omega) HU1.out HU2.out ((HRx0.out.below hW).mono hW.size) ((HRy0.out.below hW).mono hW.size)).mono fun e w' h => xres_ok h HE0.out)
                  have HC1 : Hid (∀ W, Below wp.heap.size wp W → Calls Tryz.prog 27 #[v, .slice A2 L2.length c2, .slice A1 L1.length c1] W fun e w' => ∃ G, e = .returned (.tuple #[.slice (some ⟨G, 0, none⟩) (L1.length + L2.length - 1) (L1.length + L2.length - 1), .int .i64 0]) ∧ W.heap.size ≤ G ∧ R3 w' G (L1.length + L2.length - 1) (fun k => w192 (cI L1 L2 k)) ∧ Below W.heap.size W w') := Lib.hid (fun W hW => by
                    have h := (xsgn_yes ((HVp.out.below hW).mono hW.size) HT.out A2 A1 c2 c1 L2 L1 (by omega) (by omega) HU2.out HU1.out ((HRy0.out.below hW).mono hW.size) ((HRx0.out.below hW).mono hW.size)).mono fun e w' h => xres_ok h (chkX_comm HE0.out)
                    rw [Nat.add_comm L2.length] at h
                    simp only [cI_comm L2 L1] at h
                    exact h)
                  have HC2 : Hid (∀ W, Below wp.heap.size wp W → Calls Tryz.prog 27 #[v, .slice xO L1.length dO, .slice A2 L2.length c2] W fun e w' => ∃ G, e = .returned (.tuple #[.slice (some ⟨G, 0, none⟩) (L1.length + L2.length - 1) (L1.length + L2.length - 1), .int .i64 0]) ∧ W.heap.size ≤ G ∧ R3 w' G (L1.length + L2.length - 1) (fun k => w192 (-cI L1 L2 k)) ∧ Below W.heap.size W w') := Lib.hid (fun W hW => by
                    have h := xsgn_yes ((HVp.out.below hW).mono hW.size) HT.out xO A2 dO c2 (turnL L1) L2 (by rw [turnL_length]; omega) (by omega) (turnL_i64 HU1.out HM.out) HU2.out ((HOp.out.below hW).mono hW.size) ((HRy0.out.below hW).mono hW.size)
                    rw [turnL_length, sizesL_turn] at h
                    simp only [cI_turn] at h
                    exact h.mono fun e w' h => xres_ok h HE0.out)
                  have HC3 : Hid (∀ W, Below wp.heap.size wp W → Calls Tryz.prog 27 #[v, .slice xP L1.length dP, .slice xQ L2.length dQ] W fun e w' => ∃ G, e = .returned (.tuple #[.slice (some ⟨G, 0, none⟩) (L1.length + L2.length - 1) (L1.length + L2.length - 1), .int .i64 0]) ∧ W.heap.size ≤ G ∧ R3 w' G (L1.length + L2.length - 1) (fun k => w192 (cI (sizesL L1) (sizesL L2) k)) ∧ Below W.heap.size W w') := Lib.hid (fun W hW => by
                    have h := xsgn_yes ((HVp.out.below hW).mono hW.size) HT.out xP xQ dP dQ (sizesL L1) (sizesL L2) (by rw [sizesL_length]; omega) (by rw [sizesL_length]; omega) (sizesL_i64 HU1.out HM.out) (sizesL_i64 HU2.out HM2.out) ((HPp.out.below hW).mono hW.size) ((HQp.out.below hW).mono hW.size)
                    rw [sizesL_length, sizesL_length, sizesL_twice, sizesL_twice] at h
                    exact h.mono fun e w' h => xres_ok h HE0.out)
                  have HC4 : Hid (∀ W, Below wp.heap.size wp W → Calls Tryz.prog 35 #[v, .slice xU L1.length dU, .slice xV L2.length dV] W fun e w' => ∃ G, e = .returned (.tuple #[.slice (some ⟨G, 0, none⟩) (L1.length + L2.length - 1) (L1.length + L2.length - 1), .int .i64 0]) ∧ W.heap.size ≤ G ∧ R3 w' G (L1.length + L2.length - 1) (fun k => w192 (cI (sizesL L1) (sizesL L2) k)) ∧ Below W.heap.size W w') := Lib.hid (fun W hW => by
                    have h := xuns_yes ((HVp.out.below hW).mono hW.size) HT.out xU xV dU dV (sizesL L1) (sizesL L2) (by rw [sizesL_length]; omega) (by rw [sizesL_length]; omega) (sizesL_u64 HU1.out) (sizesL_u64 HU2.out) ((HUp.out.below hW).mono hW.size) ((HWp.out.below hW).mono hW.size)
                    rw [sizesL_length, sizesL_length] at h
                    exact h.mono fun e w' h => xres_ok h (chkX_half HE0.out))
                  have hn0 : L1.length + L2.length - 1 ≤ 60 := by omega
                  obtain ⟨n, hn⟩ : ∃ n, n = L1.length + L2.length - 1 := ⟨_, rfl⟩
                  rw [← hn] at HC0 HC1 HC2 HC3 HC4 hn0
                  obtain ⟨X, hX⟩ : ∃ X : Nat → Nat, X = fun k => w192 (cI L1 L2 k) := ⟨_, rfl⟩
                  obtain ⟨Z, hZ⟩ : ∃ Z : Nat → Nat, Z = fun k => w192 (-cI L1 L2 k) := ⟨_, rfl⟩
                  obtain ⟨Y, hY⟩ : ∃ Y : Nat → Nat, Y = fun k => w192 (cI (sizesL L1) (sizesL L2) k) := ⟨_, rfl⟩
                  rw [← hX] at HC0 HC1
                  rw [← hZ] at HC2
                  rw [← hY] at HC3 HC4
                  have HXl : Hid (∀ k, X k < 6277101735386680763835789423207666416102355444464034512896) := Lib.hid (fun k => by rw [hX]; exact w192_lt _)
                  have HYl : Hid (∀ k, Y k < 6277101735386680763835789423207666416102355444464034512896) := Lib.hid (fun k => by rw [hY]; exact w192_lt _)
                  have HZl : Hid (∀ k, Z k < 6277101735386680763835789423207666416102355444464034512896) := Lib.hid (fun k => by rw [hZ]; exact w192_lt _)
                  have HNeg : Hid (∀ k W, Calls Tryz.prog 37 #[.agg (tl (X k)).toArray] W fun e w' => e = .returned (.agg (three (Z k))) ∧ Below W.heap.size W w') := Lib.hid (fun k W => by
                    have h := lneg_any (w192 (cI L1 L2 k)) W
                    rw [dif_neg192] at h
                    rw [hX, hZ]
                    exact h)
                  have HEq : Hid (∀ (k : Nat) W, (Op.equalIn 10000 69 (.agg (tl (Z k)).toArray) (.agg (three (Z k)))).run Tryz.prog W = .ok true W) := Lib.hid (fun k W => by rw [tl_list, eqn_three _ _ (HZl.out k) (HZl.out k)]; simp)
                  have HSm1 : Hid (∀ G H W, R3 W G n X → R3 W H n X → Calls Tryz.prog 36 #[.slice (some ⟨G, 0, none⟩) n n, .slice (some ⟨H, 0, none⟩) n n] W fun e w' => e = .returned (.bool true) ∧ ∃ q, w' = W.drewN q) := Lib.hid (fun G H W h1 h2 => same24_any G H n X W (by omega) HXl.out h1 h2)
                  have HSm2 : Hid (∀ G H W, R3 W G n Y → R3 W H n Y → Calls Tryz.prog 36 #[.slice (some ⟨G, 0, none⟩) n n, .slice (some ⟨H, 0, none⟩) n n] W fun e w' => e = .returned (.bool true) ∧ ∃ q, w' = W.drewN q) := Lib.hid (fun G H W h1 h2 => same24_any G H n Y W (by omega) HYl.out h1 h2)
                  have tn : ((n : Int) != (n : Int)) = false := by simp
                  clear hn hX hY hZ HVp HUp HWp HOp HPp HQp HRx0 HRy0 HM HM2 HTU HPL HE0 HT
                  go_wp2_with fail
                  refine (HC0.out _ (Below.refl _ _)).mono ?_
                  rintro e v0 hres0
                  obtain ⟨G0, rfl, hg0, hr0, hb0⟩ := hres0
                  have Rf0 := Lib.hid hr0
                  have HB0 := Lib.hid hb0
                  clear hr0 hb0 hg0
                  go_wp2_with fail
                  refine (HC1.out _ HB0.out).mono ?_
                  rintro e v1 hres1
                  obtain ⟨G1, rfl, hg1, hr1, hb1⟩ := hres1
                  have Rf0 := Lib.hid (Rf0.out.keep hb1)
                  have Rf1 := Lib.hid hr1
                  have HB1 := Lib.hid (HB0.out.trans (hb1.mono HB0.out.size))
                  clear hr1 hb1 hg1
                  go_wp2_with fail
                  refine (HC2.out _ HB1.out).mono ?_
                  rintro e v2 hres2
                  obtain ⟨G2, rfl, hg2, hr2, hb2⟩ := hres2
                  have Rf0 := Lib.hid (Rf0.out.keep hb2)
                  have Rf1 := Lib.hid (Rf1.out.keep hb2)
                  have Rf2 := Lib.hid hr2
                  have HB2 := Lib.hid (HB1.out.trans (hb2.mono HB1.out.size))
                  clear hr2 hb2 hg2
                  go_wp2_with fail
                  refine (HC3.out _ HB2.out).mono ?_
                  rintro e v3 hres3
                  obtain ⟨G3, rfl, hg3, hr3, hb3⟩ := hres3
                  have Rf0 := Lib.hid (Rf0.out.keep hb3)
                  have Rf1 := Lib.hid (Rf1.out.keep hb3)
                  have Rf2 := Lib.hid (Rf2.out.keep hb3)
                  have Rf3 := Lib.hid hr3
                  have HB3 := Lib.hid (HB2.out.trans (hb3.mono HB2.out.size))
                  clear hr3 hb3 hg3
                  go_wp2_with fail
                  refine (HC4.out _ HB3.out).mono ?_
                  rintro e v4 hres4
                  obtain ⟨G4, rfl, hg4, hr4, hb4⟩ := hres4
                  have Rf0 := Lib.hid (Rf0.out.keep hb4)
                  have Rf1 := Lib.hid (Rf1.out.keep hb4)
                  have Rf2 := Lib.hid (Rf2.out.keep hb4)
                  have Rf3 := Lib.hid (Rf3.out.keep hb4)
                  have Rf4 := Lib.hid hr4
                  have HB4 := Lib.hid (HB3.out.trans (hb4.mono HB3.out.size))
                  clear hr4 hb4 hg4
                  go_wp2_with fail
                  refine (HSm1.out _ _ _ Rf0.out Rf1.out).mono ?_
                  rintro e u5 ⟨rfl, q5, rfl⟩
                  go_wp2_with fail
                  refine (HSm2.out _ _ _ (R3.keep Rf3.out (below_drewN (Below.refl _ _) q5)) (R3.keep Rf4.out (below_drewN (Below.refl _ _) q5))).mono ?_
                  rintro e u6 ⟨rfl, q6, rfl⟩
                  obtain ⟨Gz, hGz⟩ : ∃ G, G = G2 := ⟨_, rfl⟩
                  obtain ⟨Gx, hGx⟩ : ∃ G, G = G0 := ⟨_, rfl⟩
                  subst hGz hGx
                  have KR : Hid (∀ W W', (R3 W Gz n Z ∧ R3 W Gx n X ∧ Below w.heap.size w W) → Below W.heap.size W W' → (R3 W' Gz n Z ∧ R3 W' Gx n X ∧ Below w.heap.size w W')) := Lib.hid (fun W W' h hB => ⟨h.1.keep hB, h.2.1.keep hB, h.2.2.trans (hB.mono h.2.2.size)⟩)
                  have Q0 : Hid (R3 (v4.drewN (q5 + q6)) Gz n Z ∧ R3 (v4.drewN (q5 + q6)) Gx n X ∧ Below w.heap.size w (v4.drewN (q5 + q6))) := Lib.hid (KR.out _ _ ⟨Rf2.out, Rf0.out, HBp.out.trans (HB4.out.mono HBp.out.size)⟩ (below_drewN (Below.refl _ _) (q5 + q6)))
                  clear Rf0 Rf1 Rf2 Rf3 Rf4 HC0 HC1 HC2 HC3 HC4 HSm1 HSm2 HB0 HB1 HB2 HB3 HB4 HXl HYl HZl
                  go_wp2
                  go_loopw [185] (fun I wr => ∃ k : Nat, I = .int .i64 k ∧ k ≤ n ∧ Hid (R3 wr Gz n Z ∧ R3 wr Gx n X ∧ Below w.heap.size w wr)) (fun I _ => n - (intOf I).toNat)
                  case atStart => exact ⟨0, rfl, by omega, Q0⟩
                  case round =>
                    clear Q0
                    obtain ⟨k, rfl, hk, Q⟩ := hrel
                    by_cases hlt : k < n
                    · have f0 : (0 : Int) ≤ (k : Int) := by omega
                      have f1 : (k : Int) < (n : Int) := by omega
                      have HNg := Lib.hid (HNeg.out k)
                      have HSl : Hid (∀ W, (R3 W Gz n Z ∧ R3 W Gx n X ∧ Below w.heap.size w W) → W.rangeAt Gz (k * 3) (tl (Z k)) ∧ W.rangeAt Gx (k * 3) (tl (X k))) := Lib.hid (fun W h => ⟨h.1.range k hlt, h.2.1.range k hlt⟩)
                      have ee := HEq.out k
                      obtain ⟨x, hx⟩ : ∃ x, x = X k := ⟨_, rfl⟩
                      obtain ⟨z, hz'⟩ : ∃ z, z = Z k := ⟨_, rfl⟩
                      rw [← hx, ← hz'] at HNg HSl
                      rw [← hz'] at ee
                      clear hx hz'
                      have z0 : Hid (R3 (wr.drewN 1) Gz n Z ∧ R3 (wr.drewN 1) Gx n X ∧ Below w.heap.size w (wr.drewN 1)) := Lib.hid (KR.out _ _ Q.out (below_drewN (Below.refl _ _) 1))
                      clear Q
                      go_wp2_with fail
                      change (Code.region _ _ true).wp _ _ _ _
                      refine wp_region_held_drew (S := fun wz => wz.rangeAt Gz (k * 3) (tl z) ∧ wz.rangeAt Gx (k * 3) (tl x)) (by kernel_rfl) ((HSl.out _ z0.out)) (fun hHeld => ?_)
                      refine wpAnyH_take (i := 0) (v := ?_) rfl (by kernel_rfl) (by kernel_rfl) (by kernel_rfl) (fun _ _ _ h => h) (Or.inl ⟨by rfl, ?_⟩) (HSl.out _ z0.out) ?_
                      rotate_left
                      · intro w hSw; (try dsimp only at hSw); go_simp; try with_reducible rfl
                      try simp only [Act.put, List.getElem_toArray, List.getElem_cons_zero, List.getElem_cons_succ, List.setIfInBounds_toArray, List.set_cons_zero, List.set_cons_succ]
                      refine wpAnyH_take (i := 1) (v := ?_) rfl (by kernel_rfl) (by kernel_rfl) (by kernel_rfl) (fun _ _ _ h => h) (Or.inl ⟨by rfl, ?_⟩) (HSl.out _ z0.out) ?_
                      rotate_left
                      · intro w hSw; (try dsimp only at hSw); go_simp; try with_reducible rfl
                      try simp only [Act.put, List.getElem_toArray, List.getElem_cons_zero, List.getElem_cons_succ, List.setIfInBounds_toArray, List.set_cons_zero, List.set_cons_succ]
                      refine wpAnyH_take (i := 2) (v := ?_) rfl (by kernel_rfl) (by kernel_rfl) (by kernel_rfl) (fun _ _ _ h => h) (Or.inl ⟨by rfl, ?_⟩) (HSl.out _ z0.out) ?_
                      rotate_left
                      · intro w hSw; (try dsimp only at hSw); go_simp; try with_reducible rfl
                      try simp only [Act.put, List.getElem_toArray, List.getElem_cons_zero, List.getElem_cons_succ, List.setIfInBounds_toArray, List.set_cons_zero, List.set_cons_succ]
                      refine wpAnyH_take (i := 3) rfl (by kernel_rfl) (by kernel_rfl) (by kernel_rfl) (fun _ _ _ h => h) (yieldsIf_load_mid (by rfl) _ _ rfl _ _ rfl _ _ (fun wz h => h.1) Tryz.underlying69 rfl (by exact size_three)) (HSl.out _ z0.out) ?_
                      try simp only [Act.put, List.getElem_toArray, List.getElem_cons_zero, List.getElem_cons_succ, List.setIfInBounds_toArray, List.set_cons_zero, List.set_cons_succ]
                      refine wpAnyH_take (i := 4) (v := ?_) rfl (by kernel_rfl) (by kernel_rfl) (by kernel_rfl) (fun _ _ _ h => h) (Or.inl ⟨by rfl, ?_⟩) (HSl.out _ z0.out) ?_
                      rotate_left
                      · intro w hSw; (try dsimp only at hSw); go_simp; try with_reducible rfl
                      try simp only [Act.put, List.getElem_toArray, List.getElem_cons_zero, List.getElem_cons_succ, List.setIfInBounds_toArray, List.set_cons_zero, List.set_cons_succ]
                      refine wpAnyH_take (i := 5) (v := ?_) rfl (by kernel_rfl) (by kernel_rfl) (by kernel_rfl) (fun _ _ _ h => h) (Or.inl ⟨by rfl, ?_⟩) (HSl.out _ z0.out) ?_
                      rotate_left
                      · intro w hSw; (try dsimp only at hSw); go_simp; try with_reducible rfl
                      try simp only [Act.put, List.getElem_toArray, List.getElem_cons_zero, List.getElem_cons_succ, List.setIfInBounds_toArray, List.set_cons_zero, List.set_cons_succ]
                      refine wpAnyH_take (i := 6) (v := ?_) rfl (by kernel_rfl) (by kernel_rfl) (by kernel_rfl) (fun _ _ _ h => h) (Or.inl ⟨by rfl, ?_⟩) (HSl.out _ z0.out) ?_
                      rotate_left
                      · intro w hSw; (try dsimp only at hSw); go_simp; try with_reducible rfl
                      try simp only [Act.put, List.getElem_toArray, List.getElem_cons_zero, List.getElem_cons_succ, List.setIfInBounds_toArray, List.set_cons_zero, List.set_cons_succ]
                      refine wpAnyH_take (i := 7) rfl (by kernel_rfl) (by kernel_rfl) (by kernel_rfl) (fun _ _ _ h => h) (yieldsIf_load_mid (by rfl) _ _ rfl _ _ rfl _ _ (fun wz h => h.2) Tryz.underlying69 rfl (by exact size_three)) (HSl.out _ z0.out) ?_
                      try simp only [Act.put, List.getElem_toArray, List.getElem_cons_zero, List.getElem_cons_succ, List.setIfInBounds_toArray, List.set_cons_zero, List.set_cons_succ]
                      refine wpAnyH_ready (rs := [8]) (by kernel_rfl) (by simp) ?_
                      refine AllReadyH.cons rfl (fun K hK => ?_) AllReadyH.nil
                      try simp only [List.getElem_toArray, List.getElem_cons_zero, List.getElem_cons_succ]
                      rw [if_pos (by rfl)]
                      go_wp2_with (go_at_call 37; refine (HNg.out _).mono ?_; rintro e y9 ⟨rfl, hY⟩)
                      have z9 := Lib.hid (KR.out _ _ z0.out hY)
                      clear hY
                      refine hK.out _ _ ((HSl.out _ z9.out)) (fun _ => ?_)
                      clear hK K
                      try simp only [Act.put, List.getElem_toArray, List.getElem_cons_zero, List.getElem_cons_succ, List.setIfInBounds_toArray, List.set_cons_zero, List.set_cons_succ]
                      refine wpAnyH_take (i := 9) (v := ?_) rfl (by kernel_rfl) (by kernel_rfl) (by kernel_rfl) (fun _ _ _ h => h) (Or.inl ⟨by rfl, ?_⟩) (HSl.out _ z9.out) ?_
                      rotate_left
                      · intro w hSw; (try dsimp only at hSw); go_simp; try with_reducible rfl
                      try simp only [Act.put, List.getElem_toArray, List.getElem_cons_zero, List.getElem_cons_succ, List.setIfInBounds_toArray, List.set_cons_zero, List.set_cons_succ]
                      refine wpAnyH_done (by kernel_rfl) ?_ _
                      go_wp2
                      go_roundw
                      case rel => exact ⟨k + 1, by go_num, by omega, z9⟩
                      case measure => simp [intOf]; omega
                    · obtain rfl : k = n := by omega
                      go_wp2
                      go_ret
                      exact ⟨by first | rfl | simp, Q.out.2.2⟩
    · have t4 : (ek != 0) = true := by simpa using h0
      clear h0
      go_wp2
      go_ret
      exact ⟨rfl, K7.out.2.2⟩
  · clear her hno hp hq hr hLm hMm
    go_wp2_with (refine wpList_store_row rfl _ _ _ rfl _ #[.int .u64 (p : Int), .int .u64 (q : Int), .int .u64 (r : Int)] rfl rfl _ _ (H6.out) size_w3 rfl (one3 _ _ _) ?_; generalize hW4 : (w3.alloc (.cells #[.int .u64 0, .int .u64 0, .int .u64 0] 58)).setRow w3.heap.size #[.int .u64 (p : Int), .int .u64 (q : Int), .int .u64 (r : Int)] = w4 at *)
    go_ret
    exact ⟨by first | rfl | simp, K4.out.2.2⟩
end Go.Proofs.YtemoginoanhjlaaGreat
