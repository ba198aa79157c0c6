/- The document's answers of layer 25. -/
import Derived.Test.YthhkljfgkihfgaaGreatSerD
import Derived.Test.YthhkljfgkihfgaaGreatRaM
set_option linter.unusedVariables false
set_option linter.unusedSimpArgs false
set_option linter.unusedSectionVars false
set_option linter.unusedVariables false
set_option linter.unusedSimpArgs false
namespace Go.Proofs.YthhkljfgkihfgaaGreat
open Go.RowKit
open Alg
/-- Which error, of lists (whether each is good) and a length. -/
def flt (p n : Int) (gs : List Bool) : Int := if schk p n ≠ 0 then schk p n else if gs.all id = false then 9 else 0
theorem flt1 (p n : Int) (L : List Int) : flt p n [goodB p L] = sf1 p n L := by unfold flt sf1; simp
theorem flt2 (p n : Int) (L M : List Int) : flt p n [goodB p L, goodB p M] = sf2 p n L M := by unfold flt sf2; simp
set_option maxRecDepth 100000 in
theorem r25fault_any (b c : Nat) (es : List (Option Addr × Nat × List Int)) (p n : Int) (w : World) (p1 : 3 ≤ p) (p2' : p < 9223372036854775808) (h0 : -9223372036854775808 ≤ n) (h1 : n ≤ 9223372036854775807) (hk : es.length ≤ 4)
    (hc : ∀ i e, es[i]? = some e → w.cell? ⟨b, i, none⟩ = some (.slice e.1 e.2.2.length e.2.1) ∧ e.2.2.length ≤ 140737488351232 ∧ RdI w w.heap.size .u64 e.1 e.2.2) :
    Calls Tryz.prog 57 #[.int .u64 p, .slice (some ⟨b, 0, none⟩) es.length c, .int .i64 n] w fun e w' => e = .returned (.int .i64 (flt p n (es.map fun e => goodB p e.2.2))) ∧ w = w' := by
  have HV : Hid (flt p n (es.map fun e => goodB p e.2.2) = if schk p n ≠ 0 then schk p n else if (es.map fun e => goodB p e.2.2).all id = false then 9 else 0) := Lib.hid rfl
  have HC := Lib.hid hc
  clear hc
  by_cases c1 : n < 1
  · have HV2 : Hid (flt p n (es.map fun e => goodB p e.2.2) = 1) := Lib.hid (by
      have : schk p n = 1 := by unfold schk; rw [if_pos c1]
      rw [HV.out, this]; rfl)
    have t : decide (n < 1) = true := decide_eq_true c1
    go_enter Tryz.func57, Tryz.ntmps57
    go_wp2
    go_ret
    exact ⟨ret_int HV2.out.symm, rfl⟩
  · have t1 : decide (n < 1) = false := decide_eq_false c1
    by_cases c2 : 512 < n
    · have HV2 : Hid (flt p n (es.map fun e => goodB p e.2.2) = 13) := Lib.hid (by
        have : schk p n = 13 := by unfold schk; rw [if_neg c1, if_pos c2]
        rw [HV.out, this]; rfl)
      have t : decide (512 < n) = true := decide_eq_true c2
      go_enter Tryz.func57, Tryz.ntmps57
      go_wp2
      go_ret
      exact ⟨ret_int HV2.out.symm, rfl⟩
    · have t2 : decide (512 < n) = false := decide_eq_false c2
      obtain ⟨hq2, hq3, hq4, hq5⟩ := pd_spec (show 2 * n ≤ 4096 by omega)
      have hPd := Lib.hid (fun wz => rpad2_any (2 * n) wz (by omega) (by omega))
      have hsc : schk p n = if fitR (pd (2 * n)) p = false then 4 else 0 := by unfold schk; rw [if_neg c1, if_neg c2]
      have hft : fitR (pd (2 * n)) p = ((p - 1) % pd (2 * n) == 0) := by unfold fitR; rw [decide_eq_true (show 0 < pd (2 * n) by omega), Bool.true_and]
      rw [hft] at hsc
      obtain ⟨q, hq⟩ : ∃ q, q = pd (2 * n) := ⟨_, rfl⟩
      rw [← hq] at hPd hq3 hq4 hq5 hsc
      have hq0 : 1 ≤ q := by omega
      have tq : (q == 0) = false := beq_eq_false_iff_ne.2 (by omega)
      have r0 := Int.emod_nonneg (p - 1) (show q ≠ 0 by omega)
      by_cases c3 : (p - 1) % q = 0
      · have t3 : ((p - 1) % q == 0) = true := by simp [c3]
        have HV2 : Hid (flt p n (es.map fun e => goodB p e.2.2) = if (es.map fun e => goodB p e.2.2).all id = false then 9 else 0) := Lib.hid (by
          have : schk p n = 0 := by rw [hsc, t3]; simp
          rw [HV.out, this]; simp)
        have t3n : ((p - 1) % q != 0) = false := by simp [c3]
        have n1 : 1 ≤ n := by omega
        have n2 : n ≤ 512 := by omega
        clear hsc hq hft c1 c2 c3 hq2 r0 t3
        go_enter Tryz.func57, Tryz.ntmps57
        go_wp2_with fail
        refine (hPd.out _).mono ?_
        rintro e w1 ⟨rfl, rfl⟩
        go_wp2
        go_loopw [23] (fun I wr => ∃ i : Nat, I = .int .i64 i ∧ i ≤ es.length ∧ Hid (((es.map fun e => goodB p e.2.2).take i).all id = true) ∧ wr = w) (fun I _ => es.length - (intOf I).toNat)
        case atStart => exact ⟨0, rfl, by omega, Lib.hid (by simp), rfl⟩
        case round =>
          obtain ⟨i, rfl, hi, hall, rfl⟩ := hrel
          by_cases hlt : i < es.length
          · obtain ⟨e, he⟩ : ∃ e, es[i]? = some e := ⟨_, List.getElem?_eq_getElem hlt⟩
            obtain ⟨d, hl, hR⟩ := HC.out i e he
            obtain ⟨A, cA, L⟩ := e
            have hG := Lib.hid (r11good_any A cA wr.heap.size p L wr hl hR)
            have hgi : (es.map fun e => goodB p e.2.2)[i]? = some (goodB p L) := by rw [List.getElem?_map, he]; rfl
            have HGI := Lib.hid hgi
            obtain ⟨y, hy⟩ : ∃ y, y = goodB p L := ⟨_, rfl⟩
            rw [← hy] at hG HGI
            clear hgi hy he hR
            simp only at d hl
            cases y
            · have HV3 : Hid (flt p n (es.map fun e => goodB p e.2.2) = 9) := Lib.hid (by
                rw [HV2.out, if_pos]
                rw [List.all_eq_false]
                exact ⟨false, List.mem_of_getElem? HGI.out, by simp⟩)
              go_wp2_with fail
              refine hG.out.mono ?_
              rintro e w1 ⟨rfl, rfl⟩
              go_wp2
              go_ret
              exact ⟨ret_int HV3.out.symm, rfl⟩
            · have HA : Hid (((es.map fun e => goodB p e.2.2).take (i + 1)).all id = true) := Lib.hid (by
                rw [List.take_add_one, HGI.out, List.all_append, hall.out]; rfl)
              go_wp2_with fail
              refine hG.out.mono ?_
              rintro e w1 ⟨rfl, rfl⟩
              go_wp2
              go_roundw
              case rel => exact ⟨i + 1, by go_num, by omega, HA, by first | rfl | trivial⟩
              case measure => simp [intOf]; omega
          · have hie : i = es.length := by omega
            have HV3 : Hid (flt p n (es.map fun e => goodB p e.2.2) = 0) := Lib.hid (by
              have h1 := hall.out
              rw [hie, List.take_of_length_le (by simp)] at h1
              rw [HV2.out, h1]; rfl)
            go_wp2
            go_ret
            exact ⟨ret_int HV3.out.symm, rfl⟩
      · have t3 : ((p - 1) % q == 0) = false := by simpa using c3
        have HV2 : Hid (flt p n (es.map fun e => goodB p e.2.2) = 4) := Lib.hid (by
          have : schk p n = 4 := by rw [hsc, t3]; simp
          rw [HV.out, this]; rfl)
        have t3n : ((p - 1) % q != 0) = true := by simp [c3]
        have n1 : 1 ≤ n := by omega
        have n2 : n ≤ 512 := by omega
        clear hsc hq hft c1 c2 c3 hq2 r0 t3
        go_enter Tryz.func57, Tryz.ntmps57
        go_wp2_with fail
        refine (hPd.out _).mono ?_
        rintro e w1 ⟨rfl, rfl⟩
        go_wp2
        go_ret
        exact ⟨ret_int HV2.out.symm, rfl⟩
theorem r25get_any (A : Option Addr) (c : Nat) (L : List Int) (i n : Nat) (w : World) (hi : i ≤ 4294967296) (hl : L.length ≤ 140737488351232) (hR : RdI w n .u64 A L) :
    Calls Tryz.prog 58 #[.slice A L.length c, .int .i64 i] w fun e w' => e = .returned (.int .u64 (L.getD i 0)) ∧ w' = w := by
  by_cases h : i < L.length
  · obtain ⟨b, o, rfl, hb, hc⟩ := hR (by omega)
    have d := hc i h
    have t : decide ((i : Int) < (L.length : Int)) = true := decide_eq_true (by omega)
    obtain ⟨y, hy⟩ : ∃ y, y = L.getD i 0 := ⟨_, rfl⟩
    rw [← hy] at d ⊢
    clear hc hy
    go_enter Tryz.func58, Tryz.ntmps58
    go_wp2
    go_ret
    exact ⟨rfl, rfl⟩
  · have t : decide ((i : Int) < (L.length : Int)) = false := decide_eq_false (by omega)
    have hy : L.getD i 0 = 0 := by rw [List.getD_eq_getElem?_getD, List.getElem?_eq_none (by omega)]; rfl
    rw [hy]
    clear hy hR
    go_enter Tryz.func58, Tryz.ntmps58
    go_wp2
    go_ret
    exact ⟨rfl, rfl⟩
/-- The product behind i numbers and j terms of the next one. -/
def qrow {p : Nat} [NeZero p] (n : Nat) (A B : Nat → Fin p) (i j : Nat) : List Int := lst n fun t => if t < i then cv A B t else if t = i then sm j (fun q => A q * B (i - q)) else 0
theorem qrow_zero {p : Nat} [NeZero p] (n : Nat) (A B : Nat → Fin p) : List.replicate n 0 = qrow n A B 0 0 := by
  unfold qrow lst full
  rw [List.map_congr_left (g := fun _ => (0 : Int)) (fun i _ => by
    show (((if i < 0 then cv A B i else if i = 0 then sm 0 (fun q => A q * B (0 - q)) else 0 : Fin p).val : Nat) : Int) = 0
    rw [if_neg (by omega)]
    split
    · rw [sm_zero]; rfl
    · rfl)]
  simp [List.map_const']
theorem qrow_next {p : Nat} [NeZero p] (n : Nat) (A B : Nat → Fin p) (i : Nat) : qrow n A B i (i + 1) = qrow n A B (i + 1) 0 := lst_congr fun t ht => by
  by_cases h : t < i
  · rw [if_pos h, if_pos (by omega)]
  · rw [if_neg h]
    by_cases e : t = i
    · subst e; rw [if_pos rfl, if_pos (by omega)]; rfl
    · rw [if_neg e, if_neg (by omega)]
      split
      · rw [sm_zero]
      · rfl
theorem qrow_full {p : Nat} [NeZero p] (n : Nat) (A B : Nat → Fin p) : qrow n A B n 0 = lst n (cv A B) := lst_congr fun t ht => by rw [if_pos ht]
theorem qrow_at {p : Nat} [NeZero p] {n i j : Nat} {A B : Nat → Fin p} (hi : i < n) : (qrow n A B i j).getD i 0 = ((sm j (fun q => A q * B (i - q))).val : Int) := by
  unfold qrow
  rw [lst_get hi, if_neg (by omega), if_pos rfl]
theorem qrow_step {p : Nat} [NeZero p] {n i j : Nat} {A B : Nat → Fin p} (hi : i < n) : (qrow n A B i j).set i (((sm (j + 1) (fun q => A q * B (i - q)) : Fin p).val : Nat) : Int) = qrow n A B i (j + 1) := by
  unfold qrow lst full
  apply List.ext_getElem
  · simp
  · intro t ht ht'
    simp at ht'
    simp only [List.getElem_set, List.getElem_map, List.getElem_range]
    by_cases e : i = t
    · subst e; rw [if_pos rfl, if_neg (by omega), if_pos rfl]
    · rw [if_neg e]
      by_cases h : t < i
      · rw [if_pos h, if_pos h]
      · rw [if_neg h, if_neg h, if_neg (Ne.symm e), if_neg (Ne.symm e)]
attribute [local go_sem ↓] Go.wp_at_zero Go.wp_at_succ
set_option maxHeartbeats 4000000 in
set_option maxRecDepth 100000 in
theorem r25mul_any {p : Nat} [NeZero p] (w : World) (AA AB : Option Addr) (cA cB : Nat) (L M : List Int) (n : Nat) (p1 : 3 ≤ (p : Int)) (p2' : (p : Int) < 9223372036854775808) (hn : n ≤ 4096)
    (hl : L.length ≤ 140737488351232) (hm : M.length ≤ 140737488351232) (hU : U64s L) (hU' : U64s M) (hA : RdI w w.heap.size .u64 AA L) (hB : RdI w w.heap.size .u64 AB M) :
    Calls Tryz.prog 60 #[.int .u64 p, .slice AA L.length cA, .slice AB M.length cB, .int .i64 n] w fun r w' => ∃ V, r = .returned V ∧ OwnU w' w.heap.size V n (lst n (cv (rz p L) (rz p M))) ∧ Below w.heap.size w w' := by
  obtain ⟨i0, hi, hz0, hz1, hz2⟩ := info_parts info_u64
  have hua : ∀ (L : List Int), U64s L → ∀ i, 0 ≤ L.getD i 0 ∧ L.getD i 0 ≤ 18446744073709551615 := fun L hU i => by
    rcases Nat.lt_or_ge i L.length with h | h
    · exact hU.at h
    · rw [List.getD_eq_getElem?_getD, List.getElem?_eq_none h]; simp
  have HGA : Hid (∀ i : Nat, i ≤ 4096 → ∀ wz, Below w.heap.size w wz → Calls Tryz.prog 58 #[.slice AA L.length cA, .int .i64 i] wz fun e w' => e = .returned (.int .u64 (L.getD i 0)) ∧ w' = wz) := Lib.hid (fun i hi wz hz => r25get_any AA cA L i w.heap.size wz (by omega) hl (hA.below hz))
  have HGB : Hid (∀ i : Nat, i ≤ 4096 → ∀ wz, Below w.heap.size w wz → Calls Tryz.prog 58 #[.slice AB M.length cB, .int .i64 i] wz fun e w' => e = .returned (.int .u64 (M.getD i 0)) ∧ w' = wz) := Lib.hid (fun i hi wz hz => r25get_any AB cB M i w.heap.size wz (by omega) hm (hB.below hz))
  have HUA := Lib.hid (hua L hU)
  have HUB := Lib.hid (hua M hU')
  have HA0 : Hid (∀ i, rz p L i = zt p (L.getD i 0)) := Lib.hid (fun i => rfl)
  have HB0 : Hid (∀ i, rz p M i = zt p (M.getD i 0)) := Lib.hid (fun i => rfl)
  obtain ⟨A, hAe⟩ : ∃ A, A = rz p L := ⟨_, rfl⟩
  obtain ⟨B, hBe⟩ : ∃ B, B = rz p M := ⟨_, rfl⟩
  rw [← hAe] at HA0 ⊢
  rw [← hBe] at HB0 ⊢
  have HQ0 := Lib.hid (qrow_zero n A B)
  clear hA hB hU hU' hua hAe hBe
  go_enter Tryz.func60, Tryz.ntmps60
  go_wp2_with (at_make; refine wpList_make_full _ rfl _ _ 29 rfl w.heap.size 25 i0 (.int .u64 0) 1 Tryz.underlying29 hi hz0 hz1 _ _ _ _ n rfl rfl ?l1 ?l2 ?b2 ?b3 (Nat.le_refl _) ?_)
  case l1 => omega
  case l2 => omega
  case b2 => rw [hz2]; omega
  case b3 => unfold maxLen; omega
  intro w8 hown hgrow
  have hown0 : OwnU w8 w.heap.size (.slice (some ⟨w.heap.size, 0, none⟩) n n) n (qrow n A B 0 0) := by
    unfold OwnU
    rw [← HQ0.out, ints_zero', ← toList_madeCells_one]; exact hown
  have hB8 : Below w.heap.size w w8 := (Below.refl _ _).grown hgrow (Nat.le_refl _) (fun k h => by cases h)
  obtain ⟨G, hG⟩ : ∃ G, G = w.heap.size := ⟨_, rfl⟩
  rw [← hG]
  have hGe : w.heap.size ≤ G := by omega
  rw [show (⟨w.heap.size, 0, none⟩ : Addr) = ⟨G, 0, none⟩ by rw [hG]] at hown0
  have HO8 := Lib.hid hown0
  have HB8 := Lib.hid hB8
  clear hown hgrow hown0 hB8 hG
  go_wp2
  go_loopw [16] (fun I wr => ∃ i : Nat, I = .int .i64 i ∧ i ≤ n ∧ Hid (OwnU wr w.heap.size (.slice (some ⟨G, 0, none⟩) n n) n (qrow n A B i 0)) ∧ Hid (Below w.heap.size w wr)) (fun I _ => n - (intOf I).toNat)
  case atStart => exact ⟨0, rfl, by omega, HO8, HB8⟩
  case round =>
    clear HO8 HB8
    obtain ⟨i, rfl, hin, hO, hBr⟩ := hrel
    by_cases hlt : i < n
    · go_wp2
      go_loopw [11] (fun J wr => ∃ j : Nat, J = .int .i64 j ∧ j ≤ i + 1 ∧ Hid (OwnU wr w.heap.size (.slice (some ⟨G, 0, none⟩) n n) n (qrow n A B i j)) ∧ Hid (Below w.heap.size w wr)) (fun J _ => i + 1 - (intOf J).toNat)
      case atStart => exact ⟨0, rfl, by omega, hO, hBr⟩
      case round =>
        clear hO hBr
        obtain ⟨j, rfl, hj, hO, hBr⟩ := hrel
        by_cases hji : j ≤ i
        · obtain ⟨c0, f0, _⟩ := own_set hO.out i hlt
          rw [qrow_at hlt] at c0
          have hst := qrow_step (n := n) (i := i) (j := j) (A := A) (B := B) hlt
          have hss : (sm (j + 1) (fun q => A q * B (i - q)) : Fin p) = sm j (fun q => A q * B (i - q)) + A j * B (i - j) := sm_succ _ _
          rw [hss, HA0.out, HB0.out] at hst
          have e1 : (i : Int) - (j : Int) = ((i - j : Nat) : Int) := by omega
          have ux := HUA.out j
          have uy := HUB.out (i - j)
          have HG1 : Hid (∀ q, Calls Tryz.prog 58 #[.slice AA L.length cA, .int .i64 j] (wr.drewN q) fun e w' => e = .returned (.int .u64 (L.getD j 0)) ∧ w' = wr.drewN q) := Lib.hid (fun q => HGA.out j (by omega) _ (below_drewN hBr.out q))
          have HG2 : Hid (∀ q, Calls Tryz.prog 58 #[.slice AB M.length cB, .int .i64 (i - j : Nat)] (wr.drewN q) fun e w' => e = .returned (.int .u64 (M.getD (i - j) 0)) ∧ w' = wr.drewN q) := Lib.hid (fun q => HGB.out (i - j) (by omega) _ (below_drewN hBr.out q))
          obtain ⟨s, hs⟩ : ∃ s, s = sm j (fun q => A q * B (i - q)) := ⟨_, rfl⟩
          rw [← hs] at c0 hst
          obtain ⟨x, hx⟩ : ∃ x, x = L.getD j 0 := ⟨_, rfl⟩
          obtain ⟨k, hk⟩ : ∃ k, k = i - j := ⟨_, rfl⟩
          rw [← hk] at e1 HG2 uy hst
          obtain ⟨y, hy⟩ : ∃ y, y = M.getD k 0 := ⟨_, rfl⟩
          rw [← hx] at HG1 ux hst
          rw [← hy] at HG2 uy hst
          have hpm : ∀ z : Fin p, 0 ≤ ((z.val : Nat) : Int) ∧ ((z.val : Nat) : Int) ≤ 18446744073709551615 := fun z => by have := z.isLt; omega
          have HMu : Hid (∀ q, Calls Tryz.prog 67 #[.int .u64 x, .int .u64 y, .int .u64 p] (wr.drewN q) fun e w' => e = .returned (.int .u64 ((zt p x * zt p y).val : Int)) ∧ ∃ k, w' = (wr.drewN q).drewN k) := Lib.hid (fun q => by
            have h1 := r2mul_any x y p (wr.drewN q) ux.1 ux.2 uy.1 uy.2 (by omega) (by omega)
            rw [ev_mul] at h1; exact h1)
          obtain ⟨m, hm'⟩ : ∃ m, m = zt p x * zt p y := ⟨_, rfl⟩
          rw [← hm'] at HMu hst
          have HAd : Hid (∀ q, Calls Tryz.prog 69 #[.int .u64 (s.val : Int), .int .u64 (m.val : Int), .int .u64 p] (wr.drewN q) fun e w' => e = .returned (.int .u64 ((s + m).val : Int)) ∧ ∃ k, w' = (wr.drewN q).drewN k) := Lib.hid (fun q => by
            have h1 := r2add_any (s.val : Int) (m.val : Int) p (wr.drewN q) (hpm s).1 (hpm s).2 (hpm m).1 (hpm m).2 (by omega) (by omega)
            rw [ev_add, zt_of_val, zt_of_val] at h1; exact h1)
          obtain ⟨z0, hz0'⟩ : ∃ z0, z0 = s + m := ⟨_, rfl⟩
          rw [← hz0'] at HAd hst
          have HST := Lib.hid hst
          have i1 : (0 : Int) ≤ (i : Int) := by omega
          have i2 : (i : Int) < (n : Int) := by omega
          have hkb : k ≤ 4096 := by omega
          clear hx hy hst hz0' hm' hs hss hk hpm ux uy
          go_upto_region 8 with fail
          refine wp_region_qtail 18 (by kernel_rfl) (by kernel_rfl) ?_
          simp only [List.take_succ_cons, List.take_zero, List.drop_succ_cons, List.drop_zero]
          repeat (go_big_quiet_step ((first | (go_at_call 58; first | with_reducible exact Calls.quiet_of_same (HG1.out _) | with_reducible exact Calls.quiet_of_same (HG2.out _)) | (go_at_call 67; exact Calls.quiet_of (HMu.out _)) | (go_at_call 69; exact Calls.quiet_of (HAd.out _)))))
          refine wpQuiet_nil ?_
          intro _ hw'
          obtain ⟨nq, hw''⟩ := hw'
          subst hw''
          have hO1 := ((hO.out.drewN nq).set i hlt (z0.val : Int)).1
          rw [HST.out] at hO1
          have HO1 := Lib.hid hO1
          have HB1 : Hid (Below w.heap.size w ((wr.drewN nq).setCell ⟨G, i, none⟩ (.int .u64 (z0.val : Int)))) := Lib.hid ((below_drewN hBr.out nq).setCell hGe _)
          clear hO1 hO hBr
          go_wp2
          go_roundw
          case rel => exact ⟨j + 1, by go_num, by omega, HO1, HB1⟩
          case measure => simp [intOf]; omega
        · have hje : j = i + 1 := by omega
          have hO1 := hO.out
          rw [hje, qrow_next] at hO1
          have HO1 := Lib.hid hO1
          have tj : decide ((j : Int) ≤ (i : Int)) = false := decide_eq_false (by omega)
          clear hO hO1 hje
          go_wp2
          go_roundw
          case rel => exact ⟨i + 1, by go_num, by omega, HO1, hBr⟩
          case measure => simp [intOf]; omega
    · have hie : i = n := by omega
      have hO1 := hO.out
      rw [hie, qrow_full] at hO1
      have HO1 := Lib.hid hO1
      clear hie hO1 hO
      go_wp2
      go_ret
      exact ⟨_, rfl, HO1.out, hBr.out⟩
theorem rz_one {p : Nat} [NeZero p] : rz p [1] = (uno : Nat → Fin p) := by
  funext i
  unfold uno rz
  rcases i with _ | i
  · exact zt_one
  · rw [if_neg (by omega)]
    show zt p (([1] : List Int).getD (i + 1) 0) = 0
    rw [List.getD_eq_getElem?_getD, List.getElem?_eq_none (by simp)]
    exact zt_zero
theorem u64_one : U64s [1] := fun x hx => by simp at hx; subst hx; omega
theorem r25lst {p : Nat} [NeZero p] (w : World) (VA VB : Value) (B B' : Nat) (P Q : Nat → Fin p) (n : Nat) (p1 : 3 ≤ (p : Int)) (p2' : (p : Int) < 9223372036854775808) (hn : n ≤ 4096) (hA : OwnU w B VA n (lst n P)) (hB : OwnU w B' VB n (lst n Q)) :
    Calls Tryz.prog 60 #[.int .u64 p, VA, VB, .int .i64 n] w fun r w' => ∃ V, r = .returned V ∧ OwnU w' w.heap.size V n (lst n (cv P Q)) ∧ Below w.heap.size w w' := by
  obtain ⟨Y, cY, rfl, rY⟩ := hA.rd
  obtain ⟨Z, cZ, rfl, rZ⟩ := hB.rd
  have h1 := r25mul_any (p := p) w Y Z cY cZ (lst n P) (lst n Q) n p1 p2' hn (by rw [lst_length]; omega) (by rw [lst_length]; omega) (lst_u64 p2' _ _) (lst_u64 p2' _ _) rY rZ
  rw [lst_length, lst_length, rz_pad, rz_pad, lst_eqn (cv_eqn (pad_eqn n P) (pad_eqn n Q))] at h1
  exact h1
theorem r25lst2 {p : Nat} [NeZero p] (w : World) (VA : Value) (B : Nat) (AB : Option Addr) (cB : Nat) (P : Nat → Fin p) (M : List Int) (n : Nat) (p1 : 3 ≤ (p : Int)) (p2' : (p : Int) < 9223372036854775808) (hn : n ≤ 4096) (hm : M.length ≤ 140737488351232) (hU : U64s M) (hA : OwnU w B VA n (lst n P)) (hB : RdI w w.heap.size .u64 AB M) :
    Calls Tryz.prog 60 #[.int .u64 p, VA, .slice AB M.length cB, .int .i64 n] w fun r w' => ∃ V, r = .returned V ∧ OwnU w' w.heap.size V n (lst n (cv P (rz p M))) ∧ Below w.heap.size w w' := by
  obtain ⟨Y, cY, rfl, rY⟩ := hA.rd
  have h1 := r25mul_any (p := p) w Y AB cY cB (lst n P) M n p1 p2' hn (by rw [lst_length]; omega) hm (lst_u64 p2' _ _) hU rY hB
  rw [lst_length, rz_pad, lst_eqn (cv_eqn (pad_eqn n P) (Eqn.refl n (rz p M)))] at h1
  exact h1
set_option maxHeartbeats 1000000 in
theorem r25pow_any {p : Nat} [NeZero p] (N : Nat) : ∀ (e : Nat) (w : World) (A : Option Addr) (c : Nat) (L : List Int) (n : Nat), e < N → (e : Int) ≤ 18446744073709551615 → 3 ≤ (p : Int) → (p : Int) < 9223372036854775808 → n ≤ 4096 → L.length ≤ 140737488351232 → U64s L → RdI w w.heap.size .u64 A L →
    Calls Tryz.prog 64 #[.int .u64 p, .slice A L.length c, .int .u64 e, .int .i64 n] w fun r w' => ∃ V, r = .returned V ∧ OwnU w' w.heap.size V n (lst n (spw (rz p L) e)) ∧ Below w.heap.size w w' := by
  induction N with
  | zero => intro e w A c L n h; omega
  | succ N ih =>
    intro e w A c L n hN he p1 p2' hn hl hU hR
    by_cases h0 : e = 0
    · subst h0
      have hB1 : Below w.heap.size w ((w.alloc (.cells (ints .u64 [1]).toArray 25)).alloc (.cells (ints .u64 [1]).toArray 25)) := ((Below.refl w.heap.size w).alloc (Nat.le_refl _) _).alloc (by rw [World.size_alloc]; omega) _
      have hO1 : OwnU (w.alloc (.cells (ints .u64 [1]).toArray 25)) w.heap.size (.slice (some ⟨w.heap.size, 0, none⟩) 1 1) 1 [1] := own_lit w w.heap.size 1 [1] rfl (Nat.le_refl _) (by omega)
      have hO2 : OwnU ((w.alloc (.cells (ints .u64 [1]).toArray 25)).alloc (.cells (ints .u64 [1]).toArray 25)) w.heap.size (.slice (some ⟨w.heap.size + 1, 0, none⟩) 1 1) 1 [1] := by
        have h1 := own_lit (w.alloc (.cells (ints .u64 [1]).toArray 25)) (w.alloc (.cells (ints .u64 [1]).toArray 25)).heap.size 1 [1] rfl (Nat.le_refl _) (by omega)
        rw [World.size_alloc] at h1
        exact h1.mono (by omega)
      have hO1' := hO1.below ((Below.refl (w.alloc (.cells (ints .u64 [1]).toArray 25)).heap.size (w.alloc (.cells (ints .u64 [1]).toArray 25))).alloc (Nat.le_refl _) (.cells (ints .u64 [1]).toArray 25))
      obtain ⟨Y, cY, hY, rY⟩ := hO1'.rd
      obtain ⟨Z, cZ, hZ, rZ⟩ := hO2.rd
      cases hY
      cases hZ
      have h1 := r25mul_any (p := p) _ _ _ 1 1 [1] [1] n p1 p2' hn (by decide) (by decide) u64_one u64_one rY rZ
      rw [rz_one, cv_uno] at h1
      have HM := Lib.hid h1
      have HB1 := Lib.hid hB1
      clear h1 hB1 hO1 hO2 hO1' rY rZ hU hR ih
      go_enter Tryz.func64, Tryz.ntmps64
      go_wp2_with fail
      refine HM.out.mono ?_
      rintro r w1 ⟨V, rfl, hO, hB⟩
      have HO := Lib.hid (hO.mono HB1.out.size)
      have HB := Lib.hid (HB1.out.trans (hB.mono HB1.out.size))
      clear hO hB
      go_wp2
      go_ret
      exact ⟨_, rfl, HO.out, HB.out⟩
    · have te : ((e : Int) == 0) = false := beq_eq_false_iff_ne.2 (by omega)
      obtain ⟨k, hk⟩ : ∃ k : Nat, k = e / 2 := ⟨_, rfl⟩
      have ek : (e : Int) / 2 = (k : Int) := by omega
      have IH := Lib.hid (ih k w A c L n (by omega) (by omega) p1 p2' hn hl hU hR)
      have HU := Lib.hid hU
      have HR := Lib.hid hR
      have HM : Hid (∀ wz V B, OwnU wz B V n (lst n (spw (rz p L) k)) → Calls Tryz.prog 60 #[.int .u64 p, V, V, .int .i64 n] wz fun r w' => ∃ V, r = .returned V ∧ OwnU w' wz.heap.size V n (lst n (spw (rz p L) (2 * k))) ∧ Below wz.heap.size wz w') := Lib.hid (fun wz V B hV => by
        have h1 := r25lst wz V V B B _ _ n p1 p2' hn hV hV
        rw [← spw_add, show k + k = 2 * k by omega] at h1
        exact h1)
      have HM2 : Hid (∀ wz V B, Below w.heap.size w wz → OwnU wz B V n (lst n (spw (rz p L) (2 * k))) → Calls Tryz.prog 60 #[.int .u64 p, V, .slice A L.length c, .int .i64 n] wz fun r w' => ∃ V, r = .returned V ∧ OwnU w' wz.heap.size V n (lst n (spw (rz p L) (2 * k + 1))) ∧ Below wz.heap.size wz w') := Lib.hid (fun wz V B hz hV =>
        r25lst2 wz V B A c _ L n p1 p2' hn hl HU.out hV ((HR.out.below hz).mono hz.size))
      by_cases ho : (e : Int) % 2 = 1
      · have todd : ((e : Int) % 2 == 1) = true := by simp [ho]
        have hE : 2 * k + 1 = e := by omega
        rw [hE] at HM2
        clear hU hR ih hk ho hE
        go_enter Tryz.func64, Tryz.ntmps64
        go_wp2_with fail
        refine IH.out.mono ?_
        rintro r w1 ⟨V1, rfl, hO1, hB1⟩
        have HM1 := Lib.hid (HM.out w1 V1 _ hO1)
        have HB1 := Lib.hid hB1
        clear hO1 hB1 HM IH
        go_wp2_with fail
        refine HM1.out.mono ?_
        rintro r w2 ⟨V2, rfl, hO2, hB2⟩
        have hB2' := HB1.out.trans (hB2.mono HB1.out.size)
        have HM3 := Lib.hid (HM2.out w2 V2 _ hB2' hO2)
        have HB2 := Lib.hid hB2'
        clear hO2 hB2 hB2' HM1 HM2
        go_wp2_with fail
        refine HM3.out.mono ?_
        rintro r w3 ⟨V3, rfl, hO3, hB3⟩
        have HO3 := Lib.hid (hO3.mono HB2.out.size)
        have HB3 := Lib.hid (HB2.out.trans (hB3.mono HB2.out.size))
        clear hO3 hB3 HM3
        go_wp2
        go_ret
        exact ⟨_, rfl, HO3.out, HB3.out⟩
      · have todd : ((e : Int) % 2 == 1) = false := beq_eq_false_iff_ne.2 ho
        have hE : 2 * k = e := by omega
        rw [hE] at HM
        clear hU hR ih hk ho hE HM2
        go_enter Tryz.func64, Tryz.ntmps64
        go_wp2_with fail
        refine IH.out.mono ?_
        rintro r w1 ⟨V1, rfl, hO1, hB1⟩
        have HM1 := Lib.hid (HM.out w1 V1 _ hO1)
        have HB1 := Lib.hid hB1
        clear hO1 hB1 HM IH
        go_wp2_with fail
        refine HM1.out.mono ?_
        rintro r w3 ⟨V3, rfl, hO3, hB3⟩
        have HO3 := Lib.hid (hO3.mono HB1.out.size)
        have HB3 := Lib.hid (HB1.out.trans (hB3.mono HB1.out.size))
        clear hO3 hB3 HM1
        go_wp2
        go_ret
        exact ⟨_, rfl, HO3.out, HB3.out⟩
theorem ev_map {p : Nat} [NeZero p] (L : List (Fin p)) (x : Fin p) : ev L x = sm L.length fun i => L.getD i 0 * pw x i := by
  induction L with
  | nil => rfl
  | cons c t ih =>
    show c + x * ev t x = _
    rw [ih, List.length_cons, sm_first, ← sm_mul]
    have h1 : (sm t.length fun i => x * (t.getD i 0 * pw x i)) = sm t.length fun i => (c :: t).getD (i + 1) 0 * pw x (i + 1) := sm_congr fun i hi => by
      rw [pw_succ]
      show x * (t.getD i 0 * pw x i) = t.getD i 0 * (pw x i * x)
      grind
    rw [h1]
    show _ = c * pw x 0 + _
    rw [pw_zero]; grind
theorem evl_sum {p : Nat} [NeZero p] (L : List Int) (x : Fin p) : ev (L.map (zt p)) x = sm L.length fun i => rz p L i * pw x i := by
  rw [ev_map, List.length_map]
  exact sm_congr fun i hi => by
    have : (L.map (zt p)).getD i 0 = rz p L i := by unfold rz; simp [List.getD_eq_getElem?_getD, hi]
    rw [this]
set_option maxHeartbeats 1000000 in
theorem r25at_any {p : Nat} [NeZero p] (w : World) (A : Option Addr) (c : Nat) (L : List Int) (x : Int) (p1 : 3 ≤ (p : Int)) (p2' : (p : Int) < 9223372036854775808) (x0 : 0 ≤ x) (x1 : x ≤ 18446744073709551615) (hl : L.length ≤ 4096) (hU : U64s L) (hR : RdI w w.heap.size .u64 A L) :
    Calls Tryz.prog 68 #[.int .u64 p, .slice A L.length c, .int .u64 x] w fun r w' => r = .returned (.int .u64 ((ev (L.map (zt p)) (zt p x)).val : Int)) ∧ ∃ n, w' = w.drewN n := by
  rw [evl_sum]
  have HU := Lib.hid hU
  have HR := Lib.hid hR
  have hpm : ∀ z : Fin p, 0 ≤ ((z.val : Nat) : Int) ∧ ((z.val : Nat) : Int) ≤ 18446744073709551615 := fun z => by have := z.isLt; omega
  have HPW : Hid (∀ i : Nat, i ≤ 4096 → ∀ wz, Calls Tryz.prog 109 #[.int .u64 x, .int .u64 i, .int .u64 p] wz fun e w' => e = .returned (.int .u64 ((pw (zt p x) i).val : Int)) ∧ ∃ k, w' = wz.drewN k) := Lib.hid (fun i hi wz => by
    have h1 := r2pow_any (i + 1) i x p wz (by omega) (by omega) x0 x1 (by omega) (by omega)
    rw [← zt_val, zt_pow] at h1; exact h1)
  have HMu : Hid (∀ (y : Int) (z : Fin p), 0 ≤ y → y ≤ 18446744073709551615 → ∀ wz, Calls Tryz.prog 67 #[.int .u64 y, .int .u64 (z.val : Int), .int .u64 p] wz fun e w' => e = .returned (.int .u64 ((zt p y * z).val : Int)) ∧ ∃ k, w' = wz.drewN k) := Lib.hid (fun y z y0 y1 wz => by
    have h1 := r2mul_any y (z.val : Int) p wz y0 y1 (hpm z).1 (hpm z).2 (by omega) (by omega)
    rw [ev_mul, zt_of_val] at h1; exact h1)
  have HAd : Hid (∀ (y z : Fin p), ∀ wz, Calls Tryz.prog 69 #[.int .u64 (y.val : Int), .int .u64 (z.val : Int), .int .u64 p] wz fun e w' => e = .returned (.int .u64 ((y + z).val : Int)) ∧ ∃ k, w' = wz.drewN k) := Lib.hid (fun y z wz => by
    have h1 := r2add_any (y.val : Int) (z.val : Int) p wz (hpm y).1 (hpm y).2 (hpm z).1 (hpm z).2 (by omega) (by omega)
    rw [ev_add, zt_of_val, zt_of_val] at h1; exact h1)
  have HZ : Hid ((0 : Int) = ((sm 0 (fun i => rz p L i * pw (zt p x) i) : Fin p).val : Int)) := Lib.hid (by rw [sm_zero]; rfl)
  obtain ⟨F, hF⟩ : ∃ F : Nat → Fin p, F = fun i => rz p L i * pw (zt p x) i := ⟨_, rfl⟩
  have HF : Hid (∀ i, F i = zt p (L.getD i 0) * pw (zt p x) i) := Lib.hid (fun i => by rw [hF]; rfl)
  rw [← hF] at HZ ⊢
  clear hU hR hF hpm
  go_enter Tryz.func68, Tryz.ntmps68
  go_wp2
  go_loopw [7, 12] (fun S I wr => ∃ (i : Nat) (s : Int) (q : Nat), I = .int .i64 i ∧ S = .int .u64 s ∧ i ≤ L.length ∧ Hid (s = ((sm i F : Fin p).val : Int)) ∧ wr = w.drewN q) (fun _ I _ => L.length - (intOf I).toNat)
  case atStart => exact ⟨0, _, 0, rfl, rfl, by omega, HZ, rfl⟩
  case round =>
    obtain ⟨i, s, q, rfl, rfl, hi, hs, rfl⟩ := hrel
    by_cases hlt : i < L.length
    · obtain ⟨b, o, rfl, hb, hc⟩ := HR.out (by omega)
      have d : (w.drewN q).cell? ⟨b, o + i, none⟩ = some (.int .u64 (L.getD i 0)) := hc i hlt
      have hu := HU.out.at hlt
      have hst : (sm (i + 1) F : Fin p) = sm i F + zt p (L.getD i 0) * pw (zt p x) i := by rw [sm_succ, HF.out]
      have HP1 := Lib.hid (HPW.out i (by omega))
      obtain ⟨y, hy⟩ : ∃ y, y = L.getD i 0 := ⟨_, rfl⟩
      rw [← hy] at d hu hst
      have HM1 := Lib.hid (HMu.out y (pw (zt p x) i) hu.1 hu.2)
      have HA1 := Lib.hid (HAd.out (sm i F) (zt p y * pw (zt p x) i))
      rw [← hst, ← hs.out] at HA1
      have HS : Hid (((sm (i + 1) F : Fin p).val : Int) = ((sm (i + 1) F : Fin p).val : Int)) := Lib.hid rfl
      obtain ⟨z, hz⟩ : ∃ z, z = ((zt p y * pw (zt p x) i : Fin p).val : Int) := ⟨_, rfl⟩
      rw [← hz] at HM1 HA1
      obtain ⟨u, hu'⟩ : ∃ u, u = ((pw (zt p x) i : Fin p).val : Int) := ⟨_, rfl⟩
      rw [← hu'] at HM1 HP1
      obtain ⟨v, hv⟩ : ∃ v, v = ((sm (i + 1) F : Fin p).val : Int) := ⟨_, rfl⟩
      rw [← hv] at HA1
      have HV := Lib.hid hv
      clear hst hz hu' hv hy hc HS hu
      go_wp2_with fail
      refine (HP1.out _).mono ?_
      rintro e w1 ⟨rfl, q1, rfl⟩
      go_wp2_with fail
      refine (HM1.out _).mono ?_
      rintro e w1 ⟨rfl, q2, rfl⟩
      go_wp2_with fail
      refine (HA1.out _).mono ?_
      rintro e w1 ⟨rfl, q3, rfl⟩
      go_wp2
      go_roundw
      case rel => exact ⟨i + 1, _, _, by go_num, rfl, by omega, HV, rfl⟩
      case measure => simp [intOf]; omega
    · have hie : i = L.length := by omega
      rw [hie] at hs
      have tj : decide ((i : Int) < (L.length : Int)) = false := decide_eq_false (by omega)
      clear hie
      go_wp2
      go_ret
      exact ⟨ret_int hs.out, _, rfl⟩
end Go.Proofs.YthhkljfgkihfgaaGreat
