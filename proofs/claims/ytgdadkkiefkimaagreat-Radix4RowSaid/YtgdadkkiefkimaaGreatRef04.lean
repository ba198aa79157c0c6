/- The document's rows: Claimed, Product. -/
import Derived.Test.YtgdadkkiefkimaaGreatWRightKnownM
import Derived.Test.YtgdadkkiefkimaaGreatWBitsRef02
set_option linter.unusedVariables false
set_option linter.unusedSimpArgs false
set_option linter.unusedSectionVars false
namespace Go.Proofs.YtgdadkkiefkimaaGreat
open Go.RowKit

theorem r4claimed_any (A : Option Addr) (c : Nat) (q : Int) (es : List Ent) (w : World) (hl : es.length ≤ 140737488351232) (hR : RdE w w.heap.size A es) :
    Calls Tryz.prog 168 #[.slice A es.length c, .int .u64 q] w fun e w' => e = .returned (.bool (es.any (fun x => x.p == q))) ∧ Below w.heap.size w w' := by
  go_enter Tryz.func168, Tryz.ntmps168
  go_wp2
  go_loopw [9] (fun i wr => ∃ k : Nat, i = .int .i64 k ∧ k ≤ es.length ∧ Hid ((es.take k).any (fun x => x.p == q) = false) ∧ Below w.heap.size w wr) (fun i _ => es.length - (intOf i).toNat)
  case atStart => exact ⟨0, rfl, by omega, Lib.hid (by simp), Below.refl _ _⟩
  case round =>
    obtain ⟨k, rfl, hk, hn, hB⟩ := hrel
    by_cases hlt : k < es.length
    · obtain ⟨b, o, rfl, hbl, hc⟩ := hR (by omega)
      obtain ⟨A', c', hE⟩ := hc k hlt
      have g0 : wr.cell? ⟨b, o + k * 3, none⟩ = some (.int .u64 (es.getD k Ent.none).p) := cell_keep hB hbl hE.c0
      have g1 : wr.cell? ⟨b, o + k * 3 + 1, none⟩ = some (.int .u64 (es.getD k Ent.none).g) := cell_keep hB hbl hE.c1
      have g2 : wr.cell? ⟨b, o + k * 3 + 2, none⟩ = some (.slice A' (es.getD k Ent.none).fs.length c') := cell_keep hB hbl hE.c2
      obtain ⟨x, hx⟩ : ∃ x, x = es.getD k Ent.none := ⟨_, rfl⟩
      rw [← hx] at g0 g1 g2
      have htk : Hid ((es.take (k + 1)).any (fun x => x.p == q) = (x.p == q)) := Lib.hid (by
        rw [List.take_succ_eq_append_getElem hlt, List.any_append, hn.out, hx, List.getD_eq_getElem?_getD, List.getElem?_eq_getElem hlt]; simp)
      have hxm : Hid (x ∈ es) := Lib.hid (by
        rw [hx, List.getD_eq_getElem?_getD, List.getElem?_eq_getElem hlt]
        exact List.getElem_mem hlt)
      have hws : w.heap.size ≤ wr.heap.size := hB.size
      clear hx hc hR hE
      cases hpx : (x.p == q) with
      | true =>
        have HA : Hid (es.any (fun x => x.p == q) = true) := Lib.hid (List.any_eq_true.2 ⟨x, hxm.out, hpx⟩)
        go_wp2
        go_ret
        exact ⟨by rw [HA.out]; first | rfl | simp, hB.alloc hws _⟩
      | false =>
        have HT : Hid ((es.take (k + 1)).any (fun x => x.p == q) = false) := Lib.hid (by rw [htk.out, hpx])
        clear htk
        go_wp2
        go_roundw
        case rel => exact ⟨k + 1, by go_num, by omega, HT, hB.alloc hws _⟩
        case measure => simp [intOf]; omega
    · obtain rfl : k = es.length := by omega
      have hz := hn.out
      rw [List.take_length] at hz
      have HZ := Lib.hid hz
      clear hz hn
      go_wp2
      go_ret
      exact ⟨by rw [HZ.out]; first | rfl | simp, hB⟩

/-- Factors whose product is no greater than a bound. -/
structure ProdOk (fs : List (Int × Int)) (most : Int) : Prop where
  each : ∀ k, k < fs.length → 2 ≤ (fs.getD k (0, 0)).1 ∧ 1 ≤ (fs.getD k (0, 0)).2 ∧ (fs.getD k (0, 0)).2 ≤ 62
  le : prodI fs ≤ most
theorem ProdOk.part {fs : List (Int × Int)} {most : Int} (h : ProdOk fs most) (k i : Nat) (hk : k < fs.length) (hi : (i : Int) ≤ (fs.getD k (0, 0)).2) :
    prodI (fs.take k) * (fs.getD k (0, 0)).1 ^ i ≤ most := by
  have hp : ∀ x ∈ fs, 1 ≤ x.1 := fun x hx => by
    obtain ⟨j, hj, rfl⟩ := List.getElem_of_mem hx
    have := (h.each j hj).1
    simp only [List.getD_eq_getElem?_getD, List.getElem?_eq_getElem hj, Option.getD_some] at this
    omega
  refine Int.le_trans ?_ h.le
  have hs : fs = fs.take k ++ (fs.getD k (0, 0) :: fs.drop (k + 1)) := by
    have : fs.getD k (0, 0) = fs[k] := by simp [List.getD_eq_getElem?_getD, List.getElem?_eq_getElem hk]
    rw [this, ← List.drop_eq_getElem_cons hk, List.take_append_drop]
  have h1 : 1 ≤ prodI (fs.take k) := prodI_pos fun x hx => hp x (List.mem_of_mem_take hx)
  have h2 : 1 ≤ prodI (fs.drop (k + 1)) := prodI_pos fun x hx => hp x (List.mem_of_mem_drop hx)
  have hq := (h.each k hk).1
  generalize fs.getD k (0, 0) = x at *
  conv => rhs; rw [hs]
  rw [prodI_append, prodI]
  have h3 : x.1 ^ x.2.toNat = x.1 ^ i * x.1 ^ (x.2.toNat - i) := by rw [← Int.pow_add]; congr 1; omega
  have h4 : 0 < x.1 ^ (x.2.toNat - i) := Int.pow_pos (by omega)
  have h5 : 0 < x.1 ^ i := Int.pow_pos (by omega)
  rw [h3]
  have h6 : 1 * 1 ≤ x.1 ^ (x.2.toNat - i) * prodI (fs.drop (k + 1)) := Int.mul_le_mul (by omega) h2 (by omega) (by omega)
  have h7 : (prodI (fs.take k) * x.1 ^ i) * 1 ≤ (prodI (fs.take k) * x.1 ^ i) * (x.1 ^ (x.2.toNat - i) * prodI (fs.drop (k + 1))) :=
    Int.mul_le_mul_of_nonneg_left (by omega) (Int.mul_nonneg (by omega) (by omega))
  have h8 : (prodI (fs.take k) * x.1 ^ i) * (x.1 ^ (x.2.toNat - i) * prodI (fs.drop (k + 1))) = prodI (fs.take k) * (x.1 ^ i * x.1 ^ (x.2.toNat - i) * prodI (fs.drop (k + 1))) := by grind
  omega
/-- What Product answers. -/
def ProductP (fs : List (Int × Int)) (most : Int) (w : World) (r : Ending) (w' : World) : Prop :=
  Below w.heap.size w w' ∧ ((ProdOk fs most ∧ r = .returned (.tuple #[.int .u64 (prodI fs), .bool true])) ∨ (¬ ProdOk fs most ∧ r = .returned (.tuple #[.int .u64 0, .bool false])))

set_option maxHeartbeats 2000000 in
set_option maxRecDepth 100000 in
theorem r4product_any (A : Option Addr) (c : Nat) (most : Int) (fs : List (Int × Int)) (w : World) (hl : fs.length ≤ 140737488351232) (hm0 : 1 ≤ most) (hm1 : most ≤ 18446744073709551615) (hF : RdPI w w.heap.size A fs)
    (hE : ∀ x ∈ fs, 0 ≤ x.1 ∧ x.1 ≤ 18446744073709551615 ∧ -9223372036854775808 ≤ x.2 ∧ x.2 ≤ 9223372036854775807) :
    Calls Tryz.prog 169 #[.slice A fs.length c, .int .u64 most] w (ProductP fs most w) := by
  have HE := Lib.hid hE
  clear hE
  go_enter Tryz.func169, Tryz.ntmps169
  go_wp2
  go_loopw [6, 12] (fun N I wr => ∃ (k : Nat) (n : Int), N = .int .u64 n ∧ I = .int .i64 k ∧ k ≤ fs.length ∧ 1 ≤ n ∧ n ≤ most ∧ Hid (n = prodI (fs.take k)) ∧ Hid (∀ j, j < k → 2 ≤ (fs.getD j (0, 0)).1 ∧ 1 ≤ (fs.getD j (0, 0)).2 ∧ (fs.getD j (0, 0)).2 ≤ 62) ∧ Below w.heap.size w wr) (fun _ I _ => fs.length - (intOf I).toNat)
  case atStart => exact ⟨0, 1, rfl, rfl, by omega, by omega, hm0, Lib.hid rfl, Lib.hid (fun j hj => by omega), Below.refl _ _⟩
  case round =>
    obtain ⟨k, n, rfl, rfl, hk, n0, n1, hn, hok, hB⟩ := hrel
    by_cases hlt : k < fs.length
    · obtain ⟨b, o, rfl, hbl, hc⟩ := hF (by omega)
      obtain ⟨x, hx⟩ : ∃ x, x = fs.getD k (0, 0) := ⟨_, rfl⟩
      have g0 : wr.cell? ⟨b, o + k * 2, none⟩ = some (.int .u64 x.1) := by rw [hx]; exact cell_keep hB hbl (hc k hlt).1
      have g1 : wr.cell? ⟨b, o + k * 2 + 1, none⟩ = some (.int .i64 x.2) := by rw [hx]; exact cell_keep hB hbl (hc k hlt).2
      obtain ⟨q0, q1, e0, e1⟩ := HE.out x (by rw [hx, List.getD_eq_getElem?_getD, List.getElem?_eq_getElem hlt]; exact List.getElem_mem hlt)
      have HX := Lib.hid hx
      have hws : w.heap.size ≤ wr.heap.size := hB.size
      clear hx hc hF
      by_cases hgood : 1 ≤ x.2 ∧ x.2 ≤ 62 ∧ 2 ≤ x.1
      · obtain ⟨a1, a2, a3⟩ := hgood
        have t1 : decide (x.2 < 1) = false := by simp; omega
        have t2 : decide (62 < x.2) = false := by simp; omega
        have t3 : decide (x.1 < 2) = false := by simp; omega
        go_wp2
        have hBa := hB.alloc hws (.cells #[.int .u64 x.1, .int .i64 x.2] 169)
        have l0 : (wr.alloc (.cells #[.int .u64 x.1, .int .i64 x.2] 169)).cell? ⟨wr.heap.size, 0, none⟩ = some (.int .u64 x.1) := World.cell?_alloc_at _ _ _ _ rfl
        have l1 : (wr.alloc (.cells #[.int .u64 x.1, .int .i64 x.2] 169)).cell? ⟨wr.heap.size, 1, none⟩ = some (.int .i64 x.2) := World.cell?_alloc_at _ _ _ _ rfl
        generalize wr.alloc (.cells #[.int .u64 x.1, .int .i64 x.2] 169) = wa at *
        generalize wr.heap.size = Bx at *
        clear g0 g1 hB hws
        go_loopw [6, 9] (fun N I wi => ∃ (i : Nat) (n' : Int), N = .int .u64 n' ∧ I = .int .i64 i ∧ (i : Int) ≤ x.2 ∧ 1 ≤ n' ∧ n' ≤ most ∧ Hid (n' = prodI (fs.take k) * x.1 ^ i) ∧ wi = wa) (fun _ I _ => 63 - (intOf I).toNat)
        case atStart => exact ⟨0, n, rfl, rfl, by omega, n0, n1, Lib.hid (by rw [hn.out]; simp), rfl⟩
        case round =>
          obtain ⟨i, n', rfl, rfl, hi, m0, m1, hn', rfl⟩ := hrel
          by_cases hil : (i : Int) < x.2
          · obtain ⟨v, hv⟩ : ∃ v, most / x.1 = v := ⟨_, rfl⟩
            have tx : (x.1 == 0) = false := by simp; omega
            by_cases hbig : v < n'
            · have tb : decide (v < n') = true := by simp [hbig]
              have hno : Hid (¬ ProdOk fs most) := Lib.hid (fun h => by
                have h1 := h.part k (i + 1) hlt (by rw [← HX.out]; omega)
                rw [← HX.out, Int.pow_succ, ← Int.mul_assoc, ← hn'.out] at h1
                have h2 := (Int.le_ediv_iff_mul_le (show 0 < x.1 by omega)).2 h1
                omega)
              have HV := Lib.hid hbig
              clear hbig
              go_wp2
              go_ret2
              exact ⟨hBa, .inr ⟨hno.out, rfl⟩⟩
            · have tb : decide (v < n') = false := by simp; omega
              have h3 : n' * x.1 ≤ most := (Int.le_ediv_iff_mul_le (show 0 < x.1 by omega)).1 (by omega)
              have h4 : 1 * 1 ≤ n' * x.1 := Int.mul_le_mul m0 (by omega) (by omega) (by omega)
              have hnx : Hid (n' * x.1 = prodI (fs.take k) * x.1 ^ (i + 1)) := Lib.hid (by rw [hn'.out, Int.pow_succ, Int.mul_assoc])
              obtain ⟨y, hy⟩ : ∃ y, n' * x.1 = y := ⟨_, rfl⟩
              rw [hy] at h3 h4 hnx
              go_wp2
              go_roundw
              case rel => exact ⟨i + 1, y, by first | rfl | rw [hy], by go_num, by omega, by omega, h3, hnx, by trivial⟩
              case measure => simp [intOf]; omega
          · have hiE : (i : Int) = x.2 := by omega
            have hfin : Hid (n' = prodI (fs.take (k + 1))) := Lib.hid (by
              rw [hn'.out, prodI_take hlt, ← HX.out]
              congr 2
              omega)
            have hok2 : Hid (∀ j, j < k + 1 → 2 ≤ (fs.getD j (0, 0)).1 ∧ 1 ≤ (fs.getD j (0, 0)).2 ∧ (fs.getD j (0, 0)).2 ≤ 62) := Lib.hid (fun j hj => by
              by_cases e : j = k
              · rw [e, ← HX.out]; omega
              · exact hok.out j (by omega))
            clear hiE
            go_wp2
            go_roundw
            case rel => exact ⟨k + 1, n', by first | rfl | go_num, by go_num, by omega, m0, m1, hfin, hok2, hBa⟩
            case measure => simp [intOf]; omega
      · have hno : Hid (¬ ProdOk fs most) := Lib.hid (fun h => by have := h.each k hlt; rw [← HX.out] at this; omega)
        have t4 : decide (x.2 < 1) = true ∨ (decide (x.2 < 1) = false ∧ decide (62 < x.2) = true) ∨ (decide (x.2 < 1) = false ∧ decide (62 < x.2) = false ∧ decide (x.1 < 2) = true) := by
          by_cases h : x.2 < 1
          · exact .inl (by simpa using h)
          · by_cases h2 : 62 < x.2
            · exact .inr (.inl ⟨by simpa using h, by simpa using h2⟩)
            · exact .inr (.inr ⟨by simpa using h, by simpa using h2, by simp; omega⟩)
        clear hgood
        rcases t4 with t4 | ⟨t4, t5⟩ | ⟨t4, t5, t6⟩
        all_goals
          go_wp2
          go_ret2
          exact ⟨hB.alloc hws _, .inr ⟨hno.out, rfl⟩⟩
    · obtain rfl : k = fs.length := by omega
      have hn2 := hn.out
      rw [List.take_length] at hn2
      have HY : Hid (ProdOk fs most) := Lib.hid ⟨hok.out, by omega⟩
      have HN := Lib.hid hn2
      clear hn2 hF
      go_wp2
      go_ret2
      exact ⟨hB, .inl ⟨HY.out, by rw [← HN.out]; rfl⟩⟩
end Go.Proofs.YtgdadkkiefkimaaGreat
