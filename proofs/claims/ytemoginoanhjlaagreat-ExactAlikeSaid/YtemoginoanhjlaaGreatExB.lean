/- exact: the greatest, sizes, Fits, check. -/
import Derived.Test.YtemoginoanhjlaaGreatExA
import Derived.Test.YtemoginoanhjlaaGreatMinMax
import Derived.Test.YtemoginoanhjlaaGreatWGarCGarD
import Derived.Test.YtemoginoanhjlaaGreatWP2ToR2A
import Derived.Test.YtemoginoanhjlaaGreatWTwidToRdB
import Derived.Test.YtemoginoanhjlaaGreatSieve
set_option linter.unusedVariables false
set_option linter.unusedSimpArgs false
set_option linter.unusedSectionVars false
set_option linter.unusedVariables false
set_option linter.unusedSimpArgs false
namespace Go.Proofs.YtemoginoanhjlaaGreat
open Go.RowKit
def mostL (L : List Int) : Int := L.foldl mxI 0
theorem mostL_snoc (L : List Int) (k : Nat) (h : k < L.length) : mostL (L.take (k + 1)) = mxI (mostL (L.take k)) (L.getD k 0) := by
  unfold mostL
  rw [List.take_succ_eq_append_getElem h, List.foldl_append, List.getD_eq_getElem?_getD, List.getElem?_eq_getElem h]
  rfl
def I64s (L : List Int) : Prop := ∀ x ∈ L, -9223372036854775808 ≤ x ∧ x ≤ 9223372036854775807
def sizesL (L : List Int) : List Int := L.map fun x => (x.natAbs : Int)
theorem sizesL_length (L : List Int) : (sizesL L).length = L.length := by simp [sizesL]
theorem sizesL_get (L : List Int) (i : Nat) : (sizesL L).getD i 0 = ((L.getD i 0).natAbs : Int) := by
  simp only [sizesL, List.getD_eq_getElem?_getD, List.getElem?_map]
  cases L[i]? <;> rfl
theorem sizesL_u64 {L : List Int} (h : I64s L) : U64s (sizesL L) := fun x hx => by
  simp only [sizesL, List.mem_map] at hx
  obtain ⟨y, hy, rfl⟩ := hx
  have := h y hy
  omega
set_option maxHeartbeats 1000000 in
set_option maxRecDepth 100000 in
theorem xmost_any (A : Option Addr) (c : Nat) (L : List Int) (w : World) (hl : L.length ≤ 140737488351232) (hR : RdI w w.heap.size .u64 A L) :
    Calls Tryz.prog 61 #[.slice A L.length c] w fun e w' => e = .returned (.int .u64 (mostL L)) ∧ w = w' := by
  have HR := Lib.hid hR
  have HM := Lib.hid (mostL_snoc L)
  have h0 : mostL (L.take 0) = 0 := rfl
  go_enter Tryz.func61, Tryz.ntmps61
  go_wp2
  go_loopw [3, 8] (fun X I wr => ∃ (k : Nat) (m : Int), X = .int .u64 m ∧ I = .int .i64 k ∧ k ≤ L.length ∧ Hid (m = mostL (L.take k)) ∧ w = wr) (fun _ I _ => L.length - (intOf I).toNat)
  case atStart => exact ⟨0, 0, rfl, rfl, by omega, Lib.hid h0.symm, rfl⟩
  case round =>
    obtain ⟨k, m, rfl, rfl, hk, hm, rfl⟩ := hrel
    by_cases hlt : k < L.length
    · obtain ⟨b, o, rfl, hb, hc⟩ := hR (by omega)
      have c0 := hc k hlt
      have hn : Hid (mxI m (L.getD k 0) = mostL (L.take (k + 1))) := Lib.hid (by rw [HM.out k hlt, hm.out])
      obtain ⟨x, hx⟩ : ∃ x, x = L.getD k 0 := ⟨_, rfl⟩
      rw [← hx] at c0 hn
      obtain ⟨y, hy⟩ : ∃ y, y = mxI m x := ⟨_, rfl⟩
      rw [← hy] at hn
      have HY := Lib.hid hy
      clear hx hc hy
      go_wp2
      go_roundw
      case rel => exact ⟨k + 1, y, by rw [HY.out], by go_num, by omega, hn, by first | rfl | trivial⟩
      case measure => simp [intOf]; omega
    · obtain rfl : k = L.length := by omega
      obtain rfl : m = mostL L := by rw [hm.out, List.take_of_length_le (by omega)]
      clear hm h0
      go_wp2
      go_ret
      exact ⟨rfl, rfl⟩
set_option maxHeartbeats 1000000 in
set_option maxRecDepth 100000 in
theorem xsizes_any (A : Option Addr) (c : Nat) (L : List Int) (w : World) (hl : L.length ≤ 4294967296) (hI : I64s L) (hR : RdI w w.heap.size .i64 A L) :
    Calls Tryz.prog 62 #[.slice A L.length c] w fun e w' => ∃ V, e = .returned V ∧ OwnU w' w.heap.size V L.length (sizesL L) ∧ Below w.heap.size w w' := by
  obtain ⟨i0, hi, hz0, hz1, hz2⟩ := info_parts info_u64
  have HI := Lib.hid hI
  have hsl := sizesL_length L
  have HG := Lib.hid (sizesL_get L)
  obtain ⟨M, hM⟩ : ∃ M, M = sizesL L := ⟨_, rfl⟩
  rw [← hM] at hsl HG ⊢
  clear hM hI
  go_enter Tryz.func62, Tryz.ntmps62
  go_wp2
  go_loopw [3, 8] (fun O I wr => ∃ (k : Nat) (Ov : Value), Ov = O ∧ I = .int .i64 k ∧ k ≤ L.length ∧ OwnU wr w.heap.size Ov k (M.take k) ∧ Below w.heap.size w wr) (fun _ I _ => L.length - (intOf I).toNat)
  case atStart => exact ⟨0, _, rfl, rfl, by omega, World.ownsRow_nil _ _ _ _, Below.refl _ _⟩
  case round =>
    obtain ⟨k, O, rfl, rfl, hk, hown, hB⟩ := hrel
    have hws := hB.size
    by_cases hlt : k < L.length
    · obtain ⟨b, o, rfl, hb, hc⟩ := hR (by omega)
      have c0 := cell_keep hB hb (hc k hlt)
      have hx0 := HI.out (L.getD k 0) (by rw [List.getD_eq_getElem?_getD, List.getElem?_eq_getElem hlt]; exact List.getElem_mem hlt)
      have hxl := HG.out k
      obtain ⟨x, hx⟩ : ∃ x, x = L.getD k 0 := ⟨_, rfl⟩
      rw [← hx] at c0 hx0 hxl
      have hS := Lib.hid (fun wz => xsize_any x hx0.1 hx0.2 wz)
      obtain ⟨y, hy⟩ : ∃ y, y = x.natAbs := ⟨_, rfl⟩
      rw [← hy] at hS hxl
      have HX := Lib.hid hxl
      clear hx hc hy hxl
      go_wp2_with fail
      refine (hS.out _).mono ?_
      rintro r w7 ⟨rfl, rfl⟩
      go_wp2_with (at_builtin; refine wpList_append_own _ rfl _ _ 64 rfl w.heap.size 22 i0 (.int .u64 0) 1 8 Tryz.underlying64 hi hz0 hz1 hz2 rfl (by decide) _ _ _ rfl (World.ownsRow.alloc hown _) ⟨wr.heap.size, 0, none⟩ 1 1 [.int .u64 (y : Int)] rfl rfl ?c1 ?c2 ?c3 ?c4 ?c5 ?_)
      case c1 =>
        intro j u hj
        match j, hj with
        | 0, hj => simp at hj; subst hj; simp [Addr.add]
      case c2 => intro u hu; simp at hu; subst hu; rfl
      case c3 => unfold maxLen; omega
      case c4 => omega
      case c5 => simp; omega
      intro v' w6 hown' hgrow _
      have hO : OwnU w6 w.heap.size v' (k + 1) (M.take (k + 1)) := by
        unfold OwnU
        rw [ints_snocU _ _ (by omega), HX.out]
        exact hown'
      have hB' := (hB.alloc hws (.cells #[.int .u64 (y : Int)] 22)).grown hgrow (by simp; omega) (fun k hk => (World.ownsRow.lt hown k hk).1)
      have HO := Lib.hid hO
      clear hgrow hown hB hown' hO c0
      go_wp2
      go_roundw
      case rel => exact ⟨k + 1, _, rfl, by go_num, by omega, HO.out, hB'⟩
      case measure => simp [intOf]; omega
    · obtain rfl : k = L.length := by omega
      have he : M.take L.length = M := List.take_of_length_le (by omega)
      rw [he] at hown
      have HO := Lib.hid hown
      clear he hown
      go_wp2
      go_ret
      exact ⟨_, rfl, HO.out, hB⟩
/-- What exact.Fits answers. -/
def fitsB (N : Nat) (c : Int) (a b : Nat) (d : Bool) : Bool := decide (0 ≤ c ∧ c ≤ 1024) && decide ((if d then 2 * (a * b * c.toNat) else a * b * c.toNat) < N)
theorem fitsB_low {N : Nat} {c : Int} {a b : Nat} {d : Bool} (h : c < 0 ∨ 1024 < c) : fitsB N c a b d = false := by
  unfold fitsB; rw [decide_eq_false (by omega)]; rfl
theorem cmp_lt0 (x y : Nat) : decide (cmpN x y < 0) = decide (x < y) := by
  unfold cmpN
  split
  · rename_i h; simp [h]
  · rename_i h; split <;> simp [h]
set_option maxHeartbeats 1000000 in
set_option maxRecDepth 100000 in
theorem xfits_nil (c : Int) (a b : Int) (d : Bool) (w : World) :
    Calls Tryz.prog 33 #[.pointer none, .int .i64 c, .int .u64 a, .int .u64 b, .bool d] w fun e w' => e = .returned (.bool false) ∧ w = w' := by
  go_enter Tryz.func33, Tryz.ntmps33
  go_wp2
  go_ret
  exact ⟨rfl, rfl⟩
theorem size_setRow' (w : World) (N : Nat) (cs : Array Value) : (w.setRow N cs).heap.size = w.heap.size := by simp [World.setRow]
theorem Fd.row {w : World} {B : Nat} {v : Value} {p g : Int} (h : Fd w B v p g) {N m : Nat} {t : TypeId} (hN : RowAt w N t (three m)) (cs : Array Value) : Fd (w.setRow N cs) B v p g := by
  obtain ⟨b, c, tt, o, s, sv, rfl, hb, hc, hF⟩ := h
  have hbN : b ≠ N := by
    rintro rfl
    have h1 := hF.f0
    rw [hN.cell (three_get m 0 (by omega))] at h1
    cases h1
  have hcN : c ≠ N := by
    rintro rfl
    have h1 := hF.ctx.c3
    rw [cell_of_row w c 3 (three m) t (0, 0) hN] at h1
    cases h1
  have hk : ∀ (x j : Nat) (u : Value), x ≠ N → w.cell? ⟨x, j, none⟩ = some u → (w.setRow N cs).cell? ⟨x, j, none⟩ = some u := fun x j u hx hh => by
    rw [cell_setRow_other w N cs ⟨x, j, none⟩ hx]; exact hh
  have hC := hF.ctx
  exact ⟨b, c, tt, o, s, sv, rfl, hb, hc, ⟨⟨hk c 0 _ hcN hC.c0, hk c 1 _ hcN hC.c1, hk c 2 _ hcN hC.c2, hk c 3 _ hcN hC.c3, hC.m1, hC.m2, hC.mo, hC.t0, hC.t1, hC.tm, hC.eo, hC.es⟩, hk b 0 _ hbN hF.f0, hk b 1 _ hbN hF.f1, hk b 2 _ hbN hF.f2, hk b 3 _ hbN hF.f3⟩⟩
theorem TrioP.row {w : World} {B : Nat} {v : Value} {p q r : Nat} (h : TrioP w B v p q r) {N m : Nat} {t : TypeId} (hN : RowAt w N t (three m)) (cs : Array Value) : TrioP (w.setRow N cs) B v p q r := by
  obtain ⟨G, va, vb, vc, s, u, g1, g2, g3, rfl, hG, ha, hbb, hc, hr, h1⟩ := h
  have hGN : G ≠ N := by
    rintro rfl
    have h1 := hr.cell (i := 3) (v := .int .u64 (s : Int)) rfl
    rw [cell_of_row w G 3 (three m) t (0, 0) hN] at h1
    cases h1
  exact ⟨G, va, vb, vc, s, u, g1, g2, g3, rfl, hG, ha.row hN cs, hbb.row hN cs, hc.row hN cs, hr.setRowOther _ _ hGN, h1⟩
set_option maxHeartbeats 2000000 in
set_option maxRecDepth 100000 in
theorem xfits_yes {w : World} {v : Value} {p q r : Nat} (h : TrioP w w.heap.size v p q r) (hN : p * q * r < 6277101735386680763835789423207666416102355444464034512896) (c : Int) (c0 : -9223372036854775808 ≤ c) (c1 : c ≤ 9223372036854775807) (a b : Nat) (ha : a < 18446744073709551616) (hb : b < 18446744073709551616) (d : Bool) :
    Calls Tryz.prog 33 #[v, .int .i64 c, .int .u64 (a : Int), .int .u64 (b : Int), .bool d] w fun e w' => e = .returned (.bool (fitsB (p * q * r) c a b d)) ∧ Below w.heap.size w w' := by
  have hz := (zero_of_info info_three).1
  have HT := Lib.hid h
  obtain ⟨G, hv⟩ : ∃ G, v = .pointer (some ⟨G, 0, none⟩) := by
    obtain ⟨G, _, _, _, _, _, _, _, _, e, _⟩ := h
    exact ⟨G, e⟩
  have HV := Lib.hid hv
  clear h
  by_cases hlo : c < 0 ∨ 1024 < c
  · rw [fitsB_low hlo]
    subst hv
    rcases hlo with hlo | hlo
    · have t0 : decide (c < 0) = true := decide_eq_true hlo
      go_enter Tryz.func33, Tryz.ntmps33
      go_wp2
      go_ret
      exact ⟨rfl, Below.refl _ _⟩
    · have t0 : decide (c < 0) = false := decide_eq_false (by omega)
      have t1 : decide (c > 1024) = true := decide_eq_true hlo
      go_enter Tryz.func33, Tryz.ntmps33
      go_wp2
      go_ret
      exact ⟨rfl, Below.refl _ _⟩
  · obtain ⟨k, rfl⟩ := Int.eq_ofNat_of_zero_le (show 0 ≤ c by omega)
    have hk : k ≤ 1024 := by omega
    have t0 : decide ((k : Int) < 0) = false := decide_eq_false (by omega)
    have t1 : decide ((k : Int) > 1024) = false := decide_eq_false (by omega)
    have tw : IntKind.u64.wrap (k : Int) = (k : Int) := by rw [IntKind.wrap_u64]; omega
    have HTm := Lib.hid (fun W => ltimes_any a b ha hb W)
    have hab : a * b ≤ 18446744073709551615 * 18446744073709551615 := Nat.mul_le_mul (by omega) (by omega)
    obtain ⟨N, hN'⟩ : ∃ N, N = p * q * r := ⟨_, rfl⟩
    have HP : Hid (∀ W, TrioP W W.heap.size v p q r → Calls Tryz.prog 78 #[v] W fun e w' => e = .returned (.agg (three (p * q * r))) ∧ Below W.heap.size W w') := Lib.hid (fun W h => tprod_yes h (Nat.le_refl _))
    rw [← hN'] at HP hN ⊢
    clear hN' hlo c0 c1
    obtain ⟨X, hX⟩ : ∃ X, X = a * b := ⟨_, rfl⟩
    rw [← hX] at HTm hab
    have hk2 : X * k ≤ 18446744073709551615 * 18446744073709551615 * 1024 := Nat.mul_le_mul hab hk
    have hth : three X = #[.int .u64 ((X % 18446744073709551616 : Nat) : Int), .int .u64 ((X / 18446744073709551616 : Nat) : Int), .int .u64 0] := by
      unfold three
      rw [show X / 18446744073709551616 % 18446744073709551616 = X / 18446744073709551616 by omega, show X / 340282366920938463463374607431768211456 % 18446744073709551616 = 0 by omega]; rfl
    have HSc := Lib.hid (fun W => lscale_any X k (by omega) W)
    obtain ⟨lo, hlo⟩ : ∃ lo, lo = X % 18446744073709551616 := ⟨_, rfl⟩
    obtain ⟨hi, hhi⟩ : ∃ hi, hi = X / 18446744073709551616 := ⟨_, rfl⟩
    rw [← hlo, ← hhi] at HTm hth
    have HTH : Hid (((three 0).setIfInBounds 0 (.int .u64 (lo : Int))).setIfInBounds 1 (.int .u64 (hi : Int)) = three X) := Lib.hid (by rw [hth]; rfl)
    obtain ⟨m, hm⟩ : ∃ m, m = X * k := ⟨_, rfl⟩
    rw [← hm] at HSc hk2
    have HLf := Lib.hid (fun W => lleft_any m W)
    clear hlo hhi hth ha hb
    cases d with
    | true =>
    obtain ⟨n, hn⟩ : ∃ n, n = 2 * m := ⟨_, rfl⟩
    rw [← hn] at HLf
    have HC := Lib.hid (fun W => lcmp_any n N (by omega) hN W)
    obtain ⟨κ, hκ⟩ : ∃ κ, κ = cmpN n N := ⟨_, rfl⟩
    rw [← hκ] at HC
    rw [hn] at hκ
    clear hn
    subst hv
    have HF : Hid (decide (κ < 0) = fitsB N (k : Int) a b true) := Lib.hid (by
      rw [hκ, cmp_lt0]
      unfold fitsB
      rw [decide_eq_true (show 0 ≤ (k : Int) ∧ (k : Int) ≤ 1024 by omega), Bool.true_and]
      congr 1
      rw [hm, hX, Int.toNat_natCast]
      rfl)
    clear hκ hm hX hab hk2
    go_enter Tryz.func33, Tryz.ntmps33
    go_wp2_with fail
    refine (HTm.out _).mono ?_
    rintro e w1 ⟨rfl, rfl⟩
    go_wp2_with fail
    rw [HTH.out]
    refine (HSc.out _).mono ?_
    rintro e w2 ⟨rfl, hB2⟩
    have H4 := Lib.hid (RowAt.new w2 69 (three 0))
    have hsz := hB2.size
    have z4 : Hid (RowAt ((w2.alloc (.cells (three 0) 69)).setRow w2.heap.size (three m)) w2.heap.size 69 (three m) ∧ TrioP ((w2.alloc (.cells (three 0) 69)).setRow w2.heap.size (three m)) ((w2.alloc (.cells (three 0) 69)).setRow w2.heap.size (three m)).heap.size (.pointer (some ⟨G, 0, none⟩)) p q r ∧ Below w.heap.size w ((w2.alloc (.cells (three 0) 69)).setRow w2.heap.size (three m))) := Lib.hid ⟨H4.out.setRow _, by
      rw [size_setRow']
      exact TrioP.row (m := 0) (((HT.out.below hB2).mono hsz).below ((Below.refl w2.heap.size w2).alloc (Nat.le_refl _) _) |>.mono (by simp)) H4.out _, below_setRow (hB2.alloc hsz _) hsz _⟩
    go_wp2_with (first | (refine wpList_store_row rfl _ _ _ rfl _ _ rfl rfl _ _ (H4.out) size_three rfl (three_one _) ?_) | (refine wpList_load_row rfl _ _ rfl _ rfl _ _ _ _ (z4.out.1) Tryz.underlying69 rfl size_three ?_))
    generalize ((w2.alloc (.cells (three 0) 69)).setRow w2.heap.size (three m)) = w4 at *
    refine (HLf.out _).mono ?_
    rintro e w5 ⟨rfl, hB5⟩
    have z5 : Hid (RowAt w5 w2.heap.size 69 (three m) ∧ TrioP w5 w5.heap.size (.pointer (some ⟨G, 0, none⟩)) p q r ∧ Below w.heap.size w w5) := Lib.hid ⟨z4.out.1.keep hB5, (z4.out.2.1.below hB5).mono hB5.size, z4.out.2.2.trans (hB5.mono z4.out.2.2.size)⟩
    have z6 : Hid (RowAt (w5.setRow w2.heap.size (three n)) w2.heap.size 69 (three n) ∧ TrioP (w5.setRow w2.heap.size (three n)) (w5.setRow w2.heap.size (three n)).heap.size (.pointer (some ⟨G, 0, none⟩)) p q r ∧ Below w.heap.size w (w5.setRow w2.heap.size (three n))) := Lib.hid ⟨z5.out.1.setRow _, by
      rw [size_setRow']
      exact TrioP.row z5.out.2.1 z5.out.1 _, below_setRow z5.out.2.2 hsz _⟩
    clear hB5
    go_wp2_with (first | (refine wpList_store_row rfl _ _ _ rfl _ _ rfl rfl _ _ (z5.out.1) size_three rfl (three_one _) ?_))
    generalize (w5.setRow w2.heap.size (three n)) = w6 at *
    have KP : Hid (∀ X X', (RowAt X w2.heap.size 69 (three n) ∧ TrioP X X.heap.size (.pointer (some ⟨G, 0, none⟩)) p q r ∧ Below w.heap.size w X) → Below X.heap.size X X' → (RowAt X' w2.heap.size 69 (three n) ∧ TrioP X' X'.heap.size (.pointer (some ⟨G, 0, none⟩)) p q r ∧ Below w.heap.size w X')) := Lib.hid (fun X X' h hB => ⟨h.1.keep hB, (h.2.1.below hB).mono hB.size, h.2.2.trans (hB.mono h.2.2.size)⟩)
    have z0 : Hid (RowAt (w6.drewN 1) w2.heap.size 69 (three n) ∧ TrioP (w6.drewN 1) (w6.drewN 1).heap.size (.pointer (some ⟨G, 0, none⟩)) p q r ∧ Below w.heap.size w (w6.drewN 1)) := Lib.hid (KP.out _ _ z6.out (below_drewN (Below.refl _ _) 1))
    change (Code.region _ _ true).wp _ _ _ _
    refine wp_region_held_drew (S := fun wz => RowAt wz w2.heap.size 69 (three n)) (by kernel_rfl) (z0.out.1) (fun hHeld => ?_)
    refine wpAnyH_take (i := 0) rfl (by kernel_rfl) (by kernel_rfl) (by kernel_rfl) (fun _ _ _ h => h) (yieldsIf_load_row (by rfl) _ _ rfl _ rfl _ _ _ (fun wz h => h) Tryz.underlying69 rfl size_three) z0.out.1 ?_
    try simp only [Act.put, List.getElem_toArray, List.getElem_cons_zero, List.getElem_cons_succ, List.setIfInBounds_toArray, List.set_cons_zero, List.set_cons_succ]
    refine wpAnyH_take (i := 1) (v := ?_) rfl (by kernel_rfl) (by kernel_rfl) (by kernel_rfl) (fun _ _ _ h => h) (Or.inl ⟨by rfl, ?_⟩) z0.out.1 ?_
    rotate_left
    · intro w hSw; (try dsimp only at hSw); go_simp; try with_reducible rfl
    try simp only [Act.put, List.getElem_toArray, List.getElem_cons_zero, List.getElem_cons_succ, List.setIfInBounds_toArray, List.set_cons_zero, List.set_cons_succ]
    refine wpAnyH_ready (rs := [2]) (by kernel_rfl) (by simp) ?_
    refine AllReadyH.cons rfl (fun K hK => ?_) AllReadyH.nil
    try simp only [List.getElem_toArray, List.getElem_cons_zero, List.getElem_cons_succ]
    rw [if_pos (by rfl)]
    go_wp2_with (go_at_call 78; refine (HP.out _ z0.out.2.1).mono ?_; rintro e y2 ⟨rfl, hY2⟩)
    have z2 := Lib.hid (KP.out _ _ z0.out hY2)
    clear hY2
    refine hK.out _ _ (z2.out.1) (fun _ => ?_)
    clear hK K
    try simp only [Act.put, List.getElem_toArray, List.getElem_cons_zero, List.getElem_cons_succ, List.setIfInBounds_toArray, List.set_cons_zero, List.set_cons_succ]
    refine wpAnyH_ready (rs := [3]) (by kernel_rfl) (by simp) ?_
    refine AllReadyH.cons rfl (fun K hK => ?_) AllReadyH.nil
    try simp only [List.getElem_toArray, List.getElem_cons_zero, List.getElem_cons_succ]
    rw [if_pos (by rfl)]
    go_wp2_with (go_at_call 77; refine (HC.out _).mono ?_; rintro e y3 ⟨rfl, hY3⟩)
    have z3 := Lib.hid (KP.out _ _ z2.out hY3)
    clear hY3
    refine hK.out _ _ (z3.out.1) (fun _ => ?_)
    clear hK K
    try simp only [Act.put, List.getElem_toArray, List.getElem_cons_zero, List.getElem_cons_succ, List.setIfInBounds_toArray, List.set_cons_zero, List.set_cons_succ]
    refine wpAnyH_take (i := 4) (v := ?_) rfl (by kernel_rfl) (by kernel_rfl) (by kernel_rfl) (fun _ _ _ h => h) (Or.inl ⟨by rfl, ?_⟩) z3.out.1 ?_
    rotate_left
    · intro w hSw; (try dsimp only at hSw); go_simp; try with_reducible rfl
    try simp only [Act.put, List.getElem_toArray, List.getElem_cons_zero, List.getElem_cons_succ, List.setIfInBounds_toArray, List.set_cons_zero, List.set_cons_succ]
    refine wpAnyH_take (i := 5) (v := ?_) rfl (by kernel_rfl) (by kernel_rfl) (by kernel_rfl) (fun _ _ _ h => h) (Or.inl ⟨by rfl, ?_⟩) z3.out.1 ?_
    rotate_left
    · intro w hSw; (try dsimp only at hSw); go_simp; try with_reducible rfl
    try simp only [Act.put, List.getElem_toArray, List.getElem_cons_zero, List.getElem_cons_succ, List.setIfInBounds_toArray, List.set_cons_zero, List.set_cons_succ]
    refine wpAnyH_done (by kernel_rfl) ?_ _
    go_wp2
    go_ret
    exact ⟨by rw [HF.out]; rfl, z3.out.2.2⟩
    | false =>
    have HC := Lib.hid (fun W => lcmp_any m N (by omega) hN W)
    obtain ⟨κ, hκ⟩ : ∃ κ, κ = cmpN m N := ⟨_, rfl⟩
    rw [← hκ] at HC
    subst hv
    have HF : Hid (decide (κ < 0) = fitsB N (k : Int) a b false) := Lib.hid (by
      rw [hκ, cmp_lt0]
      unfold fitsB
      rw [decide_eq_true (show 0 ≤ (k : Int) ∧ (k : Int) ≤ 1024 by omega), Bool.true_and]
      congr 1
      rw [hm, hX, Int.toNat_natCast]
      rfl)
    clear hκ hm hX hab hk2
    go_enter Tryz.func33, Tryz.ntmps33
    go_wp2_with fail
    refine (HTm.out _).mono ?_
    rintro e w1 ⟨rfl, rfl⟩
    go_wp2_with fail
    rw [HTH.out]
    refine (HSc.out _).mono ?_
    rintro e w2 ⟨rfl, hB2⟩
    have H4 := Lib.hid (RowAt.new w2 69 (three 0))
    have hsz := hB2.size
    have z4 : Hid (RowAt ((w2.alloc (.cells (three 0) 69)).setRow w2.heap.size (three m)) w2.heap.size 69 (three m) ∧ TrioP ((w2.alloc (.cells (three 0) 69)).setRow w2.heap.size (three m)) ((w2.alloc (.cells (three 0) 69)).setRow w2.heap.size (three m)).heap.size (.pointer (some ⟨G, 0, none⟩)) p q r ∧ Below w.heap.size w ((w2.alloc (.cells (three 0) 69)).setRow w2.heap.size (three m))) := Lib.hid ⟨H4.out.setRow _, by
      rw [size_setRow']
      exact TrioP.row (m := 0) (((HT.out.below hB2).mono hsz).below ((Below.refl w2.heap.size w2).alloc (Nat.le_refl _) _) |>.mono (by simp)) H4.out _, below_setRow (hB2.alloc hsz _) hsz _⟩
    go_wp2_with (first | (refine wpList_store_row rfl _ _ _ rfl _ _ rfl rfl _ _ (H4.out) size_three rfl (three_one _) ?_))
    generalize ((w2.alloc (.cells (three 0) 69)).setRow w2.heap.size (three m)) = w4 at *
    have KP : Hid (∀ X X', (RowAt X w2.heap.size 69 (three m) ∧ TrioP X X.heap.size (.pointer (some ⟨G, 0, none⟩)) p q r ∧ Below w.heap.size w X) → Below X.heap.size X X' → (RowAt X' w2.heap.size 69 (three m) ∧ TrioP X' X'.heap.size (.pointer (some ⟨G, 0, none⟩)) p q r ∧ Below w.heap.size w X')) := Lib.hid (fun X X' h hB => ⟨h.1.keep hB, (h.2.1.below hB).mono hB.size, h.2.2.trans (hB.mono h.2.2.size)⟩)
    have z0 : Hid (RowAt (w4.drewN 1) w2.heap.size 69 (three m) ∧ TrioP (w4.drewN 1) (w4.drewN 1).heap.size (.pointer (some ⟨G, 0, none⟩)) p q r ∧ Below w.heap.size w (w4.drewN 1)) := Lib.hid (KP.out _ _ z4.out (below_drewN (Below.refl _ _) 1))
    change (Code.region _ _ true).wp _ _ _ _
    refine wp_region_held_drew (S := fun wz => RowAt wz w2.heap.size 69 (three m)) (by kernel_rfl) (z0.out.1) (fun hHeld => ?_)
    refine wpAnyH_take (i := 0) rfl (by kernel_rfl) (by kernel_rfl) (by kernel_rfl) (fun _ _ _ h => h) (yieldsIf_load_row (by rfl) _ _ rfl _ rfl _ _ _ (fun wz h => h) Tryz.underlying69 rfl size_three) z0.out.1 ?_
    try simp only [Act.put, List.getElem_toArray, List.getElem_cons_zero, List.getElem_cons_succ, List.setIfInBounds_toArray, List.set_cons_zero, List.set_cons_succ]
    refine wpAnyH_take (i := 1) (v := ?_) rfl (by kernel_rfl) (by kernel_rfl) (by kernel_rfl) (fun _ _ _ h => h) (Or.inl ⟨by rfl, ?_⟩) z0.out.1 ?_
    rotate_left
    · intro w hSw; (try dsimp only at hSw); go_simp; try with_reducible rfl
    try simp only [Act.put, List.getElem_toArray, List.getElem_cons_zero, List.getElem_cons_succ, List.setIfInBounds_toArray, List.set_cons_zero, List.set_cons_succ]
    refine wpAnyH_ready (rs := [2]) (by kernel_rfl) (by simp) ?_
    refine AllReadyH.cons rfl (fun K hK => ?_) AllReadyH.nil
    try simp only [List.getElem_toArray, List.getElem_cons_zero, List.getElem_cons_succ]
    rw [if_pos (by rfl)]
    go_wp2_with (go_at_call 78; refine (HP.out _ z0.out.2.1).mono ?_; rintro e y2 ⟨rfl, hY2⟩)
    have z2 := Lib.hid (KP.out _ _ z0.out hY2)
    clear hY2
    refine hK.out _ _ (z2.out.1) (fun _ => ?_)
    clear hK K
    try simp only [Act.put, List.getElem_toArray, List.getElem_cons_zero, List.getElem_cons_succ, List.setIfInBounds_toArray, List.set_cons_zero, List.set_cons_succ]
    refine wpAnyH_ready (rs := [3]) (by kernel_rfl) (by simp) ?_
    refine AllReadyH.cons rfl (fun K hK => ?_) AllReadyH.nil
    try simp only [List.getElem_toArray, List.getElem_cons_zero, List.getElem_cons_succ]
    rw [if_pos (by rfl)]
    go_wp2_with (go_at_call 77; refine (HC.out _).mono ?_; rintro e y3 ⟨rfl, hY3⟩)
    have z3 := Lib.hid (KP.out _ _ z2.out hY3)
    clear hY3
    refine hK.out _ _ (z3.out.1) (fun _ => ?_)
    clear hK K
    try simp only [Act.put, List.getElem_toArray, List.getElem_cons_zero, List.getElem_cons_succ, List.setIfInBounds_toArray, List.set_cons_zero, List.set_cons_succ]
    refine wpAnyH_take (i := 4) (v := ?_) rfl (by kernel_rfl) (by kernel_rfl) (by kernel_rfl) (fun _ _ _ h => h) (Or.inl ⟨by rfl, ?_⟩) z3.out.1 ?_
    rotate_left
    · intro w hSw; (try dsimp only at hSw); go_simp; try with_reducible rfl
    try simp only [Act.put, List.getElem_toArray, List.getElem_cons_zero, List.getElem_cons_succ, List.setIfInBounds_toArray, List.set_cons_zero, List.set_cons_succ]
    refine wpAnyH_take (i := 5) (v := ?_) rfl (by kernel_rfl) (by kernel_rfl) (by kernel_rfl) (fun _ _ _ h => h) (Or.inl ⟨by rfl, ?_⟩) z3.out.1 ?_
    rotate_left
    · intro w hSw; (try dsimp only at hSw); go_simp; try with_reducible rfl
    try simp only [Act.put, List.getElem_toArray, List.getElem_cons_zero, List.getElem_cons_succ, List.setIfInBounds_toArray, List.set_cons_zero, List.set_cons_succ]
    refine wpAnyH_done (by kernel_rfl) ?_ _
    go_wp2
    go_ret
    exact ⟨by rw [HF.out]; rfl, z3.out.2.2⟩
/-- Whether all three primes have room for a length. -/
def allFit (P : Int) (p q r : Nat) : Bool := fitR P p && (fitR P q && fitR P r)
theorem allFit_iff (P : Int) (p q r : Nat) : allFit P p q r = true ↔ ∀ i, i < 3 → fitR P ((pk p q r i : Nat) : Int) = true := by
  unfold allFit
  rw [Bool.and_eq_true, Bool.and_eq_true]
  constructor
  · rintro ⟨h1, h2, h3⟩ i hi
    match i, hi with
    | 0, _ => exact h1
    | 1, _ => exact h2
    | 2, _ => exact h3
  · intro h
    exact ⟨h 0 (by omega), h 1 (by omega), h 2 (by omega)⟩
/-- What exact.check answers, of a trio that there is. -/
def chkX (p q r : Nat) (n m : Nat) (a b : Nat) (d : Bool) : Int :=
  if n = 0 ∨ m = 0 then 1 else if 1024 < (n : Int) + (m : Int) - 1 then 13
  else if allFit (pd ((n : Int) + (m : Int) - 1)) p q r = false then 4
  else if fitsB (p * q * r) (mnI n m) a b d = false then 12 else 0
theorem chkX_zero {p q r n m a b : Nat} {d : Bool} (h : chkX p q r n m a b d = 0) : n ≠ 0 ∧ m ≠ 0 ∧ (n : Int) + (m : Int) - 1 ≤ 1024 ∧ (∀ i, i < 3 → fitR (pd ((n : Int) + (m : Int) - 1)) ((pk p q r i : Nat) : Int) = true) ∧ fitsB (p * q * r) (mnI n m) a b d = true := by
  unfold chkX at h
  split at h
  · omega
  · rename_i h1
    split at h
    · omega
    · rename_i h2
      split at h
      · omega
      · rename_i h3
        split at h
        · omega
        · rename_i h4
          exact ⟨fun e => h1 (.inl e), fun e => h1 (.inr e), by omega, (allFit_iff _ _ _ _).1 (by simpa using h3), by simpa using h4⟩
set_option maxHeartbeats 1000000 in
set_option maxRecDepth 100000 in
theorem xcheck_nil (n m a b : Int) (d : Bool) (w : World) :
    Calls Tryz.prog 60 #[.pointer none, .int .i64 n, .int .i64 m, .int .u64 a, .int .u64 b, .bool d] w fun e w' => e = .returned (.int .i64 2) ∧ w = w' := by
  go_enter Tryz.func60, Tryz.ntmps60
  go_wp2
  go_ret
  exact ⟨rfl, rfl⟩
set_option maxHeartbeats 2000000 in
set_option maxRecDepth 100000 in
theorem xcheck_yes {w : World} {v : Value} {p q r : Nat} (h : TrioP w w.heap.size v p q r) (hN : p * q * r < 6277101735386680763835789423207666416102355444464034512896) (n m : Nat) (hn : n ≤ 140737488351232) (hm : m ≤ 140737488351232) (a b : Nat) (ha : a < 18446744073709551616) (hb : b < 18446744073709551616) (d : Bool) :
    Calls Tryz.prog 60 #[v, .int .i64 (n : Int), .int .i64 (m : Int), .int .u64 (a : Int), .int .u64 (b : Int), .bool d] w fun e w' => e = .returned (.int .i64 (chkX p q r n m a b d)) ∧ Below w.heap.size w w' := by
  have HT := Lib.hid h
  obtain ⟨G, hv⟩ : ∃ G, v = .pointer (some ⟨G, 0, none⟩) := by
    obtain ⟨G, _, _, _, _, _, _, _, _, e, _⟩ := h
    exact ⟨G, e⟩
  subst hv
  by_cases hn0 : n = 0
  · subst hn0
    have hx : chkX p q r 0 m a b d = 1 := by unfold chkX; rw [if_pos (.inl rfl)]
    rw [hx]
    clear hx
    go_enter Tryz.func60, Tryz.ntmps60
    go_wp2
    go_ret
    exact ⟨rfl, Below.refl _ _⟩
  have t1 : ((n : Int) == 0) = false := beq_eq_false_iff_ne.2 (by omega)
  by_cases hm0 : m = 0
  · subst hm0
    have hx : chkX p q r n 0 a b d = 1 := by unfold chkX; rw [if_pos (.inr rfl)]
    rw [hx]
    clear hx
    go_enter Tryz.func60, Tryz.ntmps60
    go_wp2
    go_ret
    exact ⟨rfl, Below.refl _ _⟩
  have t2 : ((m : Int) == 0) = false := beq_eq_false_iff_ne.2 (by omega)
  by_cases hlg : 1024 < (n : Int) + (m : Int) - 1
  · have hx : chkX p q r n m a b d = 13 := by unfold chkX; rw [if_neg (by omega), if_pos hlg]
    rw [hx]
    have t3 : decide ((n : Int) + (m : Int) - 1 > 1024) = true := decide_eq_true hlg
    clear hx
    go_enter Tryz.func60, Tryz.ntmps60
    go_wp2
    go_ret
    exact ⟨rfl, Below.refl _ _⟩
  have t3 : decide ((n : Int) + (m : Int) - 1 > 1024) = false := decide_eq_false hlg
  have HX : Hid (chkX p q r n m a b d = if allFit (pd ((n : Int) + (m : Int) - 1)) p q r = false then 4 else if fitsB (p * q * r) (mnI n m) a b d = false then 12 else 0) := Lib.hid (by unfold chkX; rw [if_neg (by omega), if_neg hlg])
  have HF : Hid (∀ W, TrioP W W.heap.size (.pointer (some ⟨G, 0, none⟩)) p q r → Calls Tryz.prog 33 #[(.pointer (some ⟨G, 0, none⟩)), .int .i64 (mnI (n : Int) (m : Int)), .int .u64 (a : Int), .int .u64 (b : Int), .bool d] W fun e w' => e = .returned (.bool (fitsB (p * q * r) (mnI (n : Int) (m : Int)) a b d)) ∧ Below W.heap.size W w') := Lib.hid (fun W h => xfits_yes h hN _ (by rw [mnI_eq]; omega) (by rw [mnI_eq]; omega) a b ha hb d)
  obtain ⟨fb, hfb⟩ : ∃ fb, fb = fitsB (p * q * r) (mnI (n : Int) (m : Int)) a b d := ⟨_, rfl⟩
  rw [← hfb] at HF HX
  obtain ⟨P, hP⟩ : ∃ P, P = pd ((n : Int) + (m : Int) - 1) := ⟨_, rfl⟩
  have HPd := Lib.hid (fun W => pad2_any ((n : Int) + (m : Int) - 1) W (by omega) (by omega))
  have hps := pd_spec (show (n : Int) + (m : Int) - 1 ≤ 4096 by omega)
  rw [← hP] at HX HPd hps
  have HDv : Hid (∀ W vi gi (k : Nat), Fd W W.heap.size vi (k : Int) gi → Calls Tryz.prog 49 #[vi, .int .i64 P] W fun e w' => e = .returned (.bool (fitR P (k : Int))) ∧ W = w') := Lib.hid (fun W vi gi k h => divides_fd h P (by omega) (by omega))
  have HFl : Hid (∀ W i, i < 3 → TrioP W W.heap.size (.pointer (some ⟨G, 0, none⟩)) p q r → Calls Tryz.prog 121 #[(.pointer (some ⟨G, 0, none⟩)), .int .i64 ((i : Nat) : Int)] W fun e w' => (∃ vi gi, e = .returned vi ∧ Fd W W.heap.size vi ((pk p q r i : Nat) : Int) gi) ∧ W = w') := Lib.hid (fun W i hi h => tfield_yes h i hi)
  clear hfb hP hps hlg ha hb h
  go_enter Tryz.func60, Tryz.ntmps60
  go_wp2
  go_loopw [30] (fun I wr => ∃ i : Nat, I = .int .i64 i ∧ i ≤ 3 ∧ Hid ((∀ j, j < i → fitR P ((pk p q r j : Nat) : Int) = true) ∧ w = wr)) (fun I _ => 3 - (intOf I).toNat)
  case atStart => exact ⟨0, rfl, by omega, Lib.hid ⟨fun j hj => by omega, rfl⟩⟩
  case round =>
    obtain ⟨i, rfl, hi, Q⟩ := hrel
    obtain ⟨Q1, rfl⟩ := Q.out
    have HQ1 := Lib.hid Q1
    clear Q Q1
    by_cases hlt : i < 3
    · have f0 : (0 : Int) ≤ (i : Int) := by omega
      have f1 : (i : Int) < 3 := by omega
      go_wp2_with fail
      refine (HFl.out _ i hlt HT.out).mono ?_
      rintro e w1 ⟨⟨vi, gi, rfl, hFd⟩, rfl⟩
      have HD1 := Lib.hid (HDv.out _ _ _ _ hFd)
      clear hFd
      obtain ⟨ok, hok⟩ : ∃ ok, ok = fitR P ((pk p q r i : Nat) : Int) := ⟨_, rfl⟩
      rw [← hok] at HD1
      have HOK := Lib.hid hok
      clear hok
      go_wp2_with fail
      refine (HPd.out _).mono ?_
      rintro e w1 ⟨rfl, rfl⟩
      go_wp2_with fail
      refine (HD1.out).mono ?_
      rintro e w1 ⟨rfl, rfl⟩
      cases ok with
      | true =>
        go_wp2
        go_roundw
        case rel => exact ⟨i + 1, by go_num, by omega, Lib.hid ⟨fun j hj => (by
          rcases Nat.lt_or_ge j i with h1 | h1
          · exact HQ1.out j h1
          · obtain rfl : j = i := by omega
            exact HOK.out.symm), by first | rfl | trivial⟩⟩
        case measure => simp [intOf]; omega
      | false =>
        have HX4 : Hid (chkX p q r n m a b d = 4) := Lib.hid (by
          rw [HX.out]
          cases hA : allFit P p q r with
          | false => rfl
          | true => have h2 := (allFit_iff _ _ _ _).1 hA i hlt; rw [← HOK.out] at h2; cases h2)
        go_wp2
        go_ret
        exact ⟨by rw [HX4.out]; rfl, Below.refl _ _⟩
    · obtain rfl : i = 3 := by omega
      have HE : Hid (chkX p q r n m a b d = if fb = false then 12 else 0) := Lib.hid (by rw [HX.out, (allFit_iff _ _ _ _).2 HQ1.out, if_neg (by decide)])
      go_wp2_with fail
      refine (HF.out _ HT.out).mono ?_
      rintro e w1 ⟨rfl, hB⟩
      have HB := Lib.hid hB
      clear hB
      cases fb with
      | true =>
        go_wp2
        go_ret
        exact ⟨by rw [HE.out]; rfl, HB.out⟩
      | false =>
        go_wp2
        go_ret
        exact ⟨by rw [HE.out]; rfl, HB.out⟩
end Go.Proofs.YtemoginoanhjlaaGreat
