/- Law 18: the document's All and Choose. -/
import Derived.Test.YtmalmijdjhkklaaGreatPlR
import Derived.Test.YtmalmijdjhkklaaGreatWLimDB01AB01B
import Derived.Deep.RegionHeld
import Derived.Deep.MidRow
set_option linter.unusedVariables false
set_option linter.unusedSimpArgs false
set_option linter.unusedSectionVars false
set_option linter.unusedVariables false
set_option linter.unusedSimpArgs false
namespace Go.Proofs.YtmalmijdjhkklaaGreat
open Go.RowKit
theorem info_rplan3 : (Tryz.prog.info? 27).map (fun i => (i.zero, i.size, i.bytes)) = some (some (.agg #[.int .i64 0, .int .i64 0, .int .i64 0]), 3, 24) := by kernel_rfl
theorem own_keep {w w' : World} {B sz n : Nat} {t : TypeId} {v : Value} {cs : List Value} (h : w.ownsRow B t sz v n cs) (hb : Below w.heap.size w w') : w'.ownsRow B t sz v n cs :=
  World.ownsRow.kept h ⟨hb.os, hb.tape, hb.output, hb.size, fun i hi _ => hb.block i hi⟩ (row := none) (by
    rcases h.2 with ⟨e, _⟩ | ⟨g', cap', cur', e, _⟩
    · exact .inl (by rw [e]; rfl)
    · exact .inr (by rw [e]; simp [Value.ownBlock]))
theorem fitL_len (p n k : Int) (a : Nat) : (fitL p n k a).length ≤ a := by
  unfold fitL
  rw [List.length_map]
  exact Nat.le_trans (List.length_filter_le _ _) (by simp)
theorem endK_le {n : Int} (hn : 1 ≤ n ∧ n ≤ 1024) (k : Int) : endK n k ≤ 2049 := by
  unfold endK
  split
  · omega
  · split <;> omega
theorem upA_len {p n : Int} (hn : 1 ≤ n ∧ n ≤ 1024) : ∀ k : Nat, k ≤ 7 → (upA p n k).length ≤ 2049 * k
  | 0, _ => by unfold upA; simp
  | k + 1, h => by
    rw [upA_succ, List.length_append, ← fitL_all hn (by omega)]
    have h1 := upA_len (p := p) hn k (by omega)
    have h2 := fitL_len p n (k : Int) (endK n k)
    have h3 := endK_le hn (k : Int)
    omega
set_option maxHeartbeats 4000000 in
set_option maxRecDepth 100000 in
theorem r18all_any (p n : Int) (p1 : 3 ≤ p) (p2 : p < 9223372036854775808) (hn : 1 ≤ n ∧ n ≤ 1024) (w : World) :
    Calls Tryz.prog 22 #[.int .u64 p, .int .i64 n] w fun e w' => ∃ V, e = .returned V ∧ w'.ownsRow w.heap.size 27 3 V (allL p n).length (plcells (allL p n)) ∧ Below w.heap.size w w' := by
  obtain ⟨i0, hi, hz0, hz1, hz2⟩ := info_parts info_rplan3
  have HFt : Hid (∀ k a : Nat, k ≤ 6 → a ≤ 2048 → ∀ W, Calls Tryz.prog 20 #[.int .u64 p, .agg #[.int .i64 (k : Int), .int .i64 n, .int .i64 (a : Int)]] W fun e w' => e = .returned (.int .i64 (fitI p k n a)) ∧ Below W.heap.size W w') :=
    Lib.hid (fun k a hk ha W => r18fits_any p k n a p1 p2 (by omega) (by omega) (by omega) (by omega) (by omega) (by omega) W)
  have HN := Lib.hid hn
  obtain ⟨m, rfl⟩ := Int.eq_ofNat_of_zero_le (show 0 ≤ n by omega)
  obtain ⟨n, hnn⟩ : ∃ n : Int, n = (m : Int) := ⟨_, rfl⟩
  rw [← hnn] at HFt HN ⊢
  have HM := Lib.hid hnn
  have hm : 1 ≤ m ∧ m ≤ 1024 := by omega
  clear hnn hn p1 p2
  go_enter Tryz.func22, Tryz.ntmps22
  go_wp2
  go_loopw [5, 6] (fun O I wr => ∃ k : Nat, I = .int .i64 (k : Int) ∧ k ≤ 7 ∧ wr.ownsRow w.heap.size 27 3 O (upA p n k).length (plcells (upA p n k)) ∧ Below w.heap.size w wr) (fun _ I _ => 7 - (intOf I).toNat)
  case atStart => exact ⟨0, rfl, by omega, World.ownsRow_nil _ _ _ _, Below.refl _ _⟩
  case round =>
    obtain ⟨k, rfl, hk, hown, hB⟩ := hrel
    by_cases hk6 : k ≤ 6
    · have t1 : decide ((k : Int) ≤ 6) = true := decide_eq_true (by omega)
      have HEnd : Hid (upA p n k ++ fitL p n k (endK n k) = upA p n (k + 1)) := Lib.hid (by rw [fitL_all HN.out (by omega), upA_succ])
      have HYes : Hid (∀ a : Nat, fitI p k n a = 0 → upA p n k ++ fitL p n k (a + 1) = (upA p n k ++ fitL p n k a) ++ [((k : Int), n, (a : Int))]) := Lib.hid (fun a h => by rw [fitL_yes h, List.append_assoc])
      have HNo : Hid (∀ a : Nat, fitI p k n a ≠ 0 → upA p n k ++ fitL p n k (a + 1) = upA p n k ++ fitL p n k a) := Lib.hid (fun a h => by rw [fitL_no h])
      have HLn : Hid (∀ a : Nat, (upA p n k ++ fitL p n k a).length ≤ 2049 * k + a) := Lib.hid (fun a => by
        rw [List.length_append]
        have h1 := upA_len (p := p) HN.out k hk
        have h2 := fitL_len p n (k : Int) a
        omega)
      have he20 := endK_le HN.out (k : Int)
      rw [← List.append_nil (upA p n k), ← fitL_zero p n k] at hown
      obtain ⟨z, hz⟩ : ∃ z, z = endK n k := ⟨_, rfl⟩
      rw [← hz] at HEnd he20
      have HZ := Lib.hid hz
      have HO0 := Lib.hid hown
      clear hz hown
      go_wp2
      go_loopw [5, 7] (fun O I wr => ∃ a : Nat, I = .int .i64 (a : Int) ∧ a ≤ z ∧ wr.ownsRow w.heap.size 27 3 O (upA p n k ++ fitL p n k a).length (plcells (upA p n k ++ fitL p n k a)) ∧ Below w.heap.size w wr) (fun _ I _ => 2050 - (intOf I).toNat)
      case atStart => exact ⟨0, rfl, by omega, HO0.out, hB⟩
      case round =>
        clear HO0 hB
        obtain ⟨a, rfl, ha, hown, hB⟩ := hrel
        have hLen := HLn.out a
        by_cases he : a = z
        · subst he
          rw [HEnd.out] at hown
          have HO := Lib.hid hown
          have hz := HZ.out
          unfold endK at hz
          clear hown hLen
          by_cases hk4 : k < 4
          · rw [if_pos (by omega)] at hz
            have t2 : decide ((a : Int) ≤ 2048) = true := decide_eq_true (by omega)
            have t3 : decide ((k : Int) < 4) = true := decide_eq_true (by omega)
            have t6 : decide ((a : Int) > 0) = true := decide_eq_true (by omega)
            have t6b : decide (0 < a) = true := decide_eq_true (by omega)
            clear hz
            go_wp2
            go_roundw
            case rel => exact ⟨k + 1, by go_num, by omega, HO.out, hB⟩
            case measure => simp [intOf]; omega
          · rw [if_neg (by omega)] at hz
            by_cases hk44 : k = 4
            · rw [if_pos (by omega)] at hz
              have t3 : decide ((k : Int) < 4) = false := decide_eq_false (by omega)
              have t4 : ((k : Int) == 4) = true := by simp; omega
              have t2 : decide ((a : Int) ≤ 2048) = true := decide_eq_true (by have := HM.out; omega)
              have t5 : decide ((a : Int) ≥ n) = true := decide_eq_true (by have := HM.out; omega)
              clear hz
              go_wp2
              go_roundw
              case rel => exact ⟨k + 1, by go_num, by omega, HO.out, hB⟩
              case measure => simp [intOf]; omega
            · rw [if_neg (by omega)] at hz
              have t2 : decide ((a : Int) ≤ 2048) = false := decide_eq_false (by omega)
              clear hz
              go_wp2
              go_roundw
              case rel => exact ⟨k + 1, by go_num, by omega, HO.out, hB⟩
              case measure => simp [intOf]; omega
        · have hlt : a < z := by omega
          have hz := HZ.out
          unfold endK at hz
          have ha20 : a ≤ 2048 := by omega
          have t2 : decide ((a : Int) ≤ 2048) = true := decide_eq_true (by omega)
          by_cases hk4 : k < 4
          · rw [if_pos (by omega)] at hz
            have t3 : decide ((k : Int) < 4) = true := decide_eq_true (by omega)
            have t6 : decide ((a : Int) > 0) = false := decide_eq_false (by omega)
            have t6b : decide (0 < a) = false := decide_eq_false (by omega)
            clear hz
            go_wp2_with fail
            refine (HFt.out k a hk6 ha20 _).mono ?_
            rintro e w6 ⟨rfl, hB6⟩
            have hB' := hB.trans (hB6.mono hB.size)
            have hown6 := own_keep hown hB6
            have hYes := Lib.hid (fun h => HYes.out a h)
            have hNo := Lib.hid (fun h => HNo.out a h)
            obtain ⟨L, hL⟩ : ∃ L, L = upA p n k ++ fitL p n k a := ⟨_, rfl⟩
            rw [← hL] at hown6 hLen hYes hNo
            obtain ⟨er, her⟩ : ∃ er, er = fitI p k n a := ⟨_, rfl⟩
            rw [← her] at hYes hNo ⊢
            clear hB hB6 hown hL her
            by_cases hf : er = 0
            · subst hf
              have HYe : Hid (upA p n k ++ fitL p n k (a + 1) = L ++ [((k : Int), n, (a : Int))]) := Lib.hid (hYes.out rfl)
              clear hYes hNo
              go_wp2_with (at_builtin; refine wpList_append_own _ rfl _ _ 42 rfl w.heap.size 27 i0 (.agg #[.int .i64 0, .int .i64 0, .int .i64 0]) 3 24 Tryz.underlying42 hi hz0 hz1 hz2 rfl (by decide) _ _ _ rfl (hown6.alloc _) ⟨w6.heap.size, 0, none⟩ 1 1 [.int .i64 (k : Int), .int .i64 n, .int .i64 (a : Int)] rfl rfl ?c1 ?c2 ?c3 ?c4 ?c5 ?_)
              case c1 =>
                intro j u hj
                match j, hj with
                | 0, hj => simp at hj; subst hj; simp [Addr.add]
                | 1, hj => simp at hj; subst hj; simp [Addr.add]
                | 2, hj => simp at hj; subst hj; simp [Addr.add]
              case c2 => intro u hu; simp at hu; rcases hu with rfl | rfl | rfl <;> rfl
              case c3 => unfold maxLen; omega
              case c4 => omega
              case c5 => have := hB'.size; simp; omega
              intro v' w7 hown' hgrow _
              rw [← plcells_snoc L ((k : Int), n, (a : Int))] at hown'
              have hB7 := (hB'.alloc hB'.size (.cells #[.int .i64 (k : Int), .int .i64 n, .int .i64 (a : Int)] 27)).grown hgrow (by have := hB'.size; simp; omega) (fun k hk => (hown6.lt k hk).1)
              have HO : Hid (w7.ownsRow w.heap.size 27 3 v' (upA p n k ++ fitL p n k (a + 1)).length (plcells (upA p n k ++ fitL p n k (a + 1)))) := Lib.hid (by rw [HYe.out, List.length_append, List.length_singleton]; exact hown')
              clear hown' hgrow hown6 hB'
              go_wp2
              go_roundw
              case rel => exact ⟨a + 1, by go_num, by omega, HO.out, hB7⟩
              case measure => simp [intOf]; omega
            · have tf : (er == 0) = false := by simpa using hf
              have HO : Hid (w6.ownsRow w.heap.size 27 3 _ (upA p n k ++ fitL p n k (a + 1)).length (plcells (upA p n k ++ fitL p n k (a + 1)))) := Lib.hid (by rw [hNo.out hf]; exact hown6)
              clear hown6
              go_wp2
              go_roundw
              case rel => exact ⟨a + 1, by go_num, by omega, HO.out, hB'⟩
              case measure => simp [intOf]; omega
          · rw [if_neg (by omega)] at hz
            by_cases hk44 : k = 4
            · have t3 : decide ((k : Int) < 4) = false := decide_eq_false (by omega)
              have t4 : ((k : Int) == 4) = true := by simp; omega
              rw [if_pos (by omega)] at hz
              have t5 : decide ((a : Int) ≥ n) = false := decide_eq_false (by have := HM.out; omega)
              clear hz hk44
              go_wp2_with fail
              refine (HFt.out k a hk6 ha20 _).mono ?_
              rintro e w6 ⟨rfl, hB6⟩
              have hB' := hB.trans (hB6.mono hB.size)
              have hown6 := own_keep hown hB6
              have hYes := Lib.hid (fun h => HYes.out a h)
              have hNo := Lib.hid (fun h => HNo.out a h)
              obtain ⟨L, hL⟩ : ∃ L, L = upA p n k ++ fitL p n k a := ⟨_, rfl⟩
              rw [← hL] at hown6 hLen hYes hNo
              obtain ⟨er, her⟩ : ∃ er, er = fitI p k n a := ⟨_, rfl⟩
              rw [← her] at hYes hNo ⊢
              clear hB hB6 hown hL her
              by_cases hf : er = 0
              · subst hf
                have HYe : Hid (upA p n k ++ fitL p n k (a + 1) = L ++ [((k : Int), n, (a : Int))]) := Lib.hid (hYes.out rfl)
                clear hYes hNo
                go_wp2_with (at_builtin; refine wpList_append_own _ rfl _ _ 42 rfl w.heap.size 27 i0 (.agg #[.int .i64 0, .int .i64 0, .int .i64 0]) 3 24 Tryz.underlying42 hi hz0 hz1 hz2 rfl (by decide) _ _ _ rfl (hown6.alloc _) ⟨w6.heap.size, 0, none⟩ 1 1 [.int .i64 (k : Int), .int .i64 n, .int .i64 (a : Int)] rfl rfl ?c1 ?c2 ?c3 ?c4 ?c5 ?_)
                case c1 =>
                  intro j u hj
                  match j, hj with
                  | 0, hj => simp at hj; subst hj; simp [Addr.add]
                  | 1, hj => simp at hj; subst hj; simp [Addr.add]
                  | 2, hj => simp at hj; subst hj; simp [Addr.add]
                case c2 => intro u hu; simp at hu; rcases hu with rfl | rfl | rfl <;> rfl
                case c3 => unfold maxLen; omega
                case c4 => omega
                case c5 => have := hB'.size; simp; omega
                intro v' w7 hown' hgrow _
                rw [← plcells_snoc L ((k : Int), n, (a : Int))] at hown'
                have hB7 := (hB'.alloc hB'.size (.cells #[.int .i64 (k : Int), .int .i64 n, .int .i64 (a : Int)] 27)).grown hgrow (by have := hB'.size; simp; omega) (fun k hk => (hown6.lt k hk).1)
                have HO : Hid (w7.ownsRow w.heap.size 27 3 v' (upA p n k ++ fitL p n k (a + 1)).length (plcells (upA p n k ++ fitL p n k (a + 1)))) := Lib.hid (by rw [HYe.out, List.length_append, List.length_singleton]; exact hown')
                clear hown' hgrow hown6 hB'
                go_wp2
                go_roundw
                case rel => exact ⟨a + 1, by go_num, by omega, HO.out, hB7⟩
                case measure => simp [intOf]; omega
              · have tf : (er == 0) = false := by simpa using hf
                have HO : Hid (w6.ownsRow w.heap.size 27 3 _ (upA p n k ++ fitL p n k (a + 1)).length (plcells (upA p n k ++ fitL p n k (a + 1)))) := Lib.hid (by rw [hNo.out hf]; exact hown6)
                clear hown6
                go_wp2
                go_roundw
                case rel => exact ⟨a + 1, by go_num, by omega, HO.out, hB'⟩
                case measure => simp [intOf]; omega
            · rw [if_neg (by omega)] at hz
              have t3 : decide ((k : Int) < 4) = false := decide_eq_false (by omega)
              have t4 : ((k : Int) == 4) = false := by simp; omega
              clear hz hk44
              go_wp2_with fail
              refine (HFt.out k a hk6 ha20 _).mono ?_
              rintro e w6 ⟨rfl, hB6⟩
              have hB' := hB.trans (hB6.mono hB.size)
              have hown6 := own_keep hown hB6
              have hYes := Lib.hid (fun h => HYes.out a h)
              have hNo := Lib.hid (fun h => HNo.out a h)
              obtain ⟨L, hL⟩ : ∃ L, L = upA p n k ++ fitL p n k a := ⟨_, rfl⟩
              rw [← hL] at hown6 hLen hYes hNo
              obtain ⟨er, her⟩ : ∃ er, er = fitI p k n a := ⟨_, rfl⟩
              rw [← her] at hYes hNo ⊢
              clear hB hB6 hown hL her
              by_cases hf : er = 0
              · subst hf
                have HYe : Hid (upA p n k ++ fitL p n k (a + 1) = L ++ [((k : Int), n, (a : Int))]) := Lib.hid (hYes.out rfl)
                clear hYes hNo
                go_wp2_with (at_builtin; refine wpList_append_own _ rfl _ _ 42 rfl w.heap.size 27 i0 (.agg #[.int .i64 0, .int .i64 0, .int .i64 0]) 3 24 Tryz.underlying42 hi hz0 hz1 hz2 rfl (by decide) _ _ _ rfl (hown6.alloc _) ⟨w6.heap.size, 0, none⟩ 1 1 [.int .i64 (k : Int), .int .i64 n, .int .i64 (a : Int)] rfl rfl ?c1 ?c2 ?c3 ?c4 ?c5 ?_)
                case c1 =>
                  intro j u hj
                  match j, hj with
                  | 0, hj => simp at hj; subst hj; simp [Addr.add]
                  | 1, hj => simp at hj; subst hj; simp [Addr.add]
                  | 2, hj => simp at hj; subst hj; simp [Addr.add]
                case c2 => intro u hu; simp at hu; rcases hu with rfl | rfl | rfl <;> rfl
                case c3 => unfold maxLen; omega
                case c4 => omega
                case c5 => have := hB'.size; simp; omega
                intro v' w7 hown' hgrow _
                rw [← plcells_snoc L ((k : Int), n, (a : Int))] at hown'
                have hB7 := (hB'.alloc hB'.size (.cells #[.int .i64 (k : Int), .int .i64 n, .int .i64 (a : Int)] 27)).grown hgrow (by have := hB'.size; simp; omega) (fun k hk => (hown6.lt k hk).1)
                have HO : Hid (w7.ownsRow w.heap.size 27 3 v' (upA p n k ++ fitL p n k (a + 1)).length (plcells (upA p n k ++ fitL p n k (a + 1)))) := Lib.hid (by rw [HYe.out, List.length_append, List.length_singleton]; exact hown')
                clear hown' hgrow hown6 hB'
                go_wp2
                go_roundw
                case rel => exact ⟨a + 1, by go_num, by omega, HO.out, hB7⟩
                case measure => simp [intOf]; omega
              · have tf : (er == 0) = false := by simpa using hf
                have HO : Hid (w6.ownsRow w.heap.size 27 3 _ (upA p n k ++ fitL p n k (a + 1)).length (plcells (upA p n k ++ fitL p n k (a + 1)))) := Lib.hid (by rw [hNo.out hf]; exact hown6)
                clear hown6
                go_wp2
                go_roundw
                case rel => exact ⟨a + 1, by go_num, by omega, HO.out, hB'⟩
                case measure => simp [intOf]; omega
    · obtain rfl : k = 7 := by omega
      have HO := Lib.hid hown
      clear hown
      go_wp2
      go_ret
      exact ⟨_, rfl, HO.out, hB⟩
end Go.Proofs.YtmalmijdjhkklaaGreat
