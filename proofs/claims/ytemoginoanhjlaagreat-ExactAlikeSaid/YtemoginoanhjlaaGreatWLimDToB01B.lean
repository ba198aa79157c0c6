/- limbs: halves, signs. -/
import Derived.Test.YtemoginoanhjlaaGreatWLimALimBLimC
import Derived.Test.YtemoginoanhjlaaGreatQTail
import Derived.Test.YtemoginoanhjlaaGreatWAlgToRad4M
import Derived.Test.YtemoginoanhjlaaGreatWClaimToDft
import Derived.Test.YtemoginoanhjlaaGreatWTwidToRdB
set_option linter.unusedVariables false
set_option linter.unusedSimpArgs false
set_option linter.unusedSectionVars false
section
/- limbs: halves, signs. -/
namespace Go.Proofs.YtemoginoanhjlaaGreat
open Go.RowKit
theorem half_wd (a i : Nat) (hi : i < 3) (ha : a < 6277101735386680763835789423207666416102355444464034512896) : wd (a / 2) i = wd a i / 2 + (if i + 1 < 3 then 9223372036854775808 * (wd a (i + 1) % 2) else 0) := by
  unfold wd
  match i, hi with
  | 0, _ => simp only [Nat.reducePow, Nat.reduceAdd]; simp; omega
  | 1, _ => simp only [Nat.reducePow, Nat.reduceAdd]; simp; omega
  | 2, _ => simp only [Nat.reducePow, Nat.reduceAdd]; simp; omega
theorem set_set (c : Array Value) (i : Nat) (u v : Value) : (c.setIfInBounds i u).setIfInBounds i v = c.setIfInBounds i v := by
  apply Array.ext_getElem?
  intro j
  simp only [Array.getElem?_setIfInBounds, Array.size_setIfInBounds]
  by_cases h : i = j
  · simp [h]
  · simp [h]
set_option maxHeartbeats 1000000 in
set_option maxRecDepth 100000 in
theorem lright_any (a : Nat) (ha : a < 6277101735386680763835789423207666416102355444464034512896) (w : World) :
    Calls Tryz.prog 127 #[.agg (three a), .int .i64 1] w fun e w' => e = .returned (.agg (three (a / 2))) ∧ Below w.heap.size w w' := by
  have hz := (zero_of_info info_three).1
  obtain ⟨d, hd⟩ : ∃ d, d = a / 2 := ⟨_, rfl⟩
  have HW : Hid (∀ i, i < 3 → wd d i = wd a i / 2 + (if i + 1 < 3 then 9223372036854775808 * (wd a (i + 1) % 2) else 0)) := Lib.hid (fun i hi => by rw [hd]; exact half_wd a i hi ha)
  rw [← hd]
  clear hd ha
  have R0 := Lib.hid (Rows3.new w 69 (three a) 69 (three 0) 69 (three 0))
  have mm : max (1 : Int) 0 = 1 := rfl
  have mn : min (1 : Int) 192 = 1 := rfl
  have q0 : (1 : Int) / 64 = 0 := rfl
  have q1 : (1 : Int) % 64 = 1 := rfl
  go_enter Tryz.func127, Tryz.ntmps127
  go_wp2_with fail
  generalize (((w.alloc (.cells (three a) 69)).alloc (.cells (three 0) 69)).alloc (.cells (three 0) 69)) = w1 at *
  go_loopw [8] (fun I wr => ∃ i : Nat, I = .int .i64 i ∧ i ≤ 3 ∧ Hid (Rows3 w wr 69 (three a) 69 (three 0) 69 (three (d % 18446744073709551616 ^ i)))) (fun I _ => 3 - (intOf I).toNat)
  case atStart => exact ⟨0, rfl, by omega, Lib.hid (by rw [Nat.pow_zero, Nat.mod_one]; exact R0.out)⟩
  case round =>
    clear R0
    obtain ⟨i, rfl, hi, R⟩ := hrel
    by_cases hlt : i < 3
    · have c0 := R.out.1.cell (three_get a i hlt)
      have b0 := wd_lt a i
      have e0 := R.out.2.2.1.cell (three_get _ i hlt)
      have e1 := R.out.2.2.1.frozen i
      have hw := HW.out i hlt
      have f0 : (0 : Int) ≤ (i : Int) := by omega
      have f1 : (i : Int) < 3 := by omega
      have hst := three_next (n := d) hlt
      obtain ⟨z, hz'⟩ : ∃ z, z = wd d i := ⟨_, rfl⟩
      rw [← hz'] at hst hw
      obtain ⟨x, hx⟩ : ∃ x, x = wd a i := ⟨_, rfl⟩
      rw [← hx] at hw c0 b0
      have R1 := R.out.set i (.int .u64 ((x : Int) / 2)) rfl
      by_cases h2 : i + 1 < 3
      · have t2 : decide ((i : Int) + 1 < 3) = true := decide_eq_true (by omega)
        rw [if_pos h2] at hw
        have c1 := R1.1.cell (three_get a (i + 1) h2)
        have b1 := wd_lt a (i + 1)
        obtain ⟨y, hy⟩ : ∃ y, y = wd a (i + 1) := ⟨_, rfl⟩
        rw [← hy] at hw c1 b1
        have k0 : (wr.setCell ⟨w.heap.size + 1 + 1, i, none⟩ (.int .u64 ((x : Int) / 2))).cell? ⟨w.heap.size + 1 + 1, i, none⟩ = some (.int .u64 ((x : Int) / 2)) := R1.2.2.1.cell (by rw [Array.getElem?_setIfInBounds, if_pos rfl, if_pos (by rw [three_size]; exact hlt)])
        have k1 := R1.2.2.1.frozen i
        have c2 : wr.cell? ⟨w.heap.size, i + 1, none⟩ = some (.int .u64 (y : Nat)) := by rw [hy]; exact R.out.1.cell (three_get a (i + 1) h2)
        have R2 := R1.set i (.int .u64 (z : Nat)) (d := three (d % 18446744073709551616 ^ (i + 1))) (by rw [set_set]; exact hst)
        have hor : bits .or .u64 ((x : Int) / 2) (IntKind.u64.wrap ((y : Int) * 9223372036854775808)) = (z : Int) := by
          rw [IntKind.wrap_u64, Int.mul_comm]
          have hh := or_join' (9223372036854775808 * (y : Int) % 18446744073709551616) ((x : Int) / 2) 63 (by omega) (by omega) (by omega) (by omega) (by omega) (by omega)
          rw [hh]; omega
        have HST := Lib.hid hst
        have HR1 := Lib.hid R1
        clear hw hst hz' hx hy b1 R1 R2
        go_wp2_with fail
        refine wp_region_qtail 13 (by kernel_rfl) (by kernel_rfl) ?_
        simp only [List.take_succ_cons, List.take_zero, List.drop_succ_cons, List.drop_zero]
        repeat (go_big_quiet_step (fail))
        refine wpQuiet_nil ?_
        intro _ hw'
        obtain ⟨nq, hw''⟩ := hw'
        subst hw''
        have k0' := (HR1.out.drewN nq).2.2.1.cell (i := i) (v := .int .u64 ((x : Int) / 2)) (by rw [Array.getElem?_setIfInBounds, if_pos rfl, if_pos (by rw [three_size]; exact hlt)])
        have k1' := (HR1.out.drewN nq).2.2.1.frozen i
        have R3 := Lib.hid ((HR1.out.drewN nq).set i (.int .u64 (z : Nat)) (d := three (d % 18446744073709551616 ^ (i + 1))) (by rw [set_set]; exact HST.out))
        clear c0 c1 c2 e0 e1 k0 k1 HR1
        go_wp2
        go_roundw
        case rel => exact ⟨i + 1, by go_num, by omega, R3⟩
        case measure => simp [intOf]; omega
      · have t2 : decide ((i : Int) + 1 < 3) = false := decide_eq_false (by omega)
        rw [if_neg h2] at hw
        have e2 : (x : Int) / 2 = (z : Int) := by omega
        rw [e2] at R1
        have R2 : Hid (Rows3 w (wr.setCell ⟨w.heap.size + 1 + 1, i, none⟩ (.int .u64 (z : Nat))) 69 (three a) 69 (three 0) 69 (three (d % 18446744073709551616 ^ (i + 1)))) := Lib.hid (hst ▸ R1)
        clear R1 hst hz' hx hw
        go_wp2
        go_roundw
        case rel => exact ⟨i + 1, by go_num, by omega, R2⟩
        case measure => simp [intOf]; omega
    · obtain rfl : i = 3 := by omega
      have r3 := R.out.2.2.1
      rw [show (18446744073709551616 : Nat) ^ 3 = 6277101735386680763835789423207666416102355444464034512896 by rfl, three_mod] at r3
      have r2 := R.out.2.1
      obtain ⟨r2', hB'⟩ := R.out.ret (three d)
      have HB' := Lib.hid hB'
      clear hB' R
      go_wp2_with (first | (refine wpList_load_row rfl _ _ rfl _ rfl _ _ _ _ r3 Tryz.underlying69 rfl size_three ?_) | (refine wpList_store_row rfl _ _ _ rfl _ _ rfl rfl _ _ r2 size_three rfl (three_one _) ?_))
      refine bodyPost_ret (results_cell_row rfl _ _ _ _ _ _ _ rfl r2' Tryz.underlying69 rfl size_three) (by rfl) ?_
      exact ⟨rfl, HB'.out⟩
set_option maxHeartbeats 1000000 in
set_option maxRecDepth 100000 in
theorem lof_any (n : Int) (h0 : -9223372036854775808 ≤ n) (h1 : n ≤ 9223372036854775807) (w : World) :
    Calls Tryz.prog 58 #[.int .i64 n] w fun e w' => e = .returned (.agg (three ((n % 6277101735386680763835789423207666416102355444464034512896).toNat))) ∧ Below w.heap.size w w' := by
  have hz := (zero_of_info info_three).1
  obtain ⟨R0, hB0⟩ := lay1 w 69 (three 0)
  obtain ⟨D, hD⟩ : ∃ D, D = (n % 6277101735386680763835789423207666416102355444464034512896).toNat := ⟨_, rfl⟩
  have HQ : Hid (three D = #[.int .u64 (IntKind.u64.wrap n), .int .u64 (IntKind.u64.wrap (n / 9223372036854775808)), .int .u64 (IntKind.u64.wrap (n / 9223372036854775808))]) := Lib.hid (by
    unfold three
    rw [IntKind.wrap_u64, IntKind.wrap_u64]
    have hD' : (D : Int) = n % 6277101735386680763835789423207666416102355444464034512896 := by rw [hD]; exact Int.toNat_of_nonneg (Int.emod_nonneg _ (by decide))
    have hq : (0 ≤ n ∧ n / 9223372036854775808 = 0) ∨ (n < 0 ∧ n / 9223372036854775808 = -1) := by omega
    clear hD
    have a1 : ((D % 18446744073709551616 : Nat) : Int) = n % 18446744073709551616 := by omega
    have a2 : ((D / 18446744073709551616 % 18446744073709551616 : Nat) : Int) = n / 9223372036854775808 % 18446744073709551616 := by rcases hq with ⟨h, e⟩ | ⟨h, e⟩ <;> rw [e] <;> omega
    have a3 : ((D / 340282366920938463463374607431768211456 % 18446744073709551616 : Nat) : Int) = n / 9223372036854775808 % 18446744073709551616 := by rcases hq with ⟨h, e⟩ | ⟨h, e⟩ <;> rw [e] <;> omega
    rw [a1, a2, a3])
  rw [← hD]
  have r2' := R0.setRow (three D)
  have HB' := Lib.hid (below_setRow hB0 (Nat.le_refl _) (three D))
  clear hD hB0
  go_enter Tryz.func58, Tryz.ntmps58
  go_wp2_with (refine wpList_store_row rfl _ _ _ rfl w.heap.size (three D) rfl (by rw [HQ.out]; rfl) _ _ R0 size_three rfl (three_one _) ?_)
  refine bodyPost_ret (results_cell_row rfl _ _ _ _ _ _ _ rfl r2' Tryz.underlying69 rfl size_three) (by rfl) ?_
  exact ⟨rfl, HB'.out⟩
end Go.Proofs.YtemoginoanhjlaaGreat
end

section
/- garner: a trio in memory; plus, Field, Product, Primes, Split. -/
namespace Go.Proofs.YtemoginoanhjlaaGreat
open Go.RowKit
open Alg (Prime)
theorem info_w3 : (Tryz.prog.info? 58).map (fun i => (i.zero, i.size)) = some (some (.agg (three 0)), 3) := by kernel_rfl
theorem size_w3 : (Tryz.prog.info? 58).map (·.size) = some 3 := by kernel_rfl
def tl (n : Nat) : List Value := [.int .u64 ((n % 18446744073709551616 : Nat) : Int), .int .u64 ((n / 18446744073709551616 % 18446744073709551616 : Nat) : Int), .int .u64 ((n / 340282366920938463463374607431768211456 % 18446744073709551616 : Nat) : Int)]
theorem three_tl (n : Nat) : three n = (tl n).toArray := rfl
/-- A trio's cells. -/
def gtrow (va vb vc : Value) (s t x y : Nat) : Array Value :=
  #[va, vb, vc, .int .u64 (s : Int), .int .u64 (t : Int), .int .u64 ((x % 18446744073709551616 : Nat) : Int), .int .u64 ((x / 18446744073709551616 % 18446744073709551616 : Nat) : Int), .int .u64 ((x / 340282366920938463463374607431768211456 % 18446744073709551616 : Nat) : Int),
    .int .u64 ((y % 18446744073709551616 : Nat) : Int), .int .u64 ((y / 18446744073709551616 % 18446744073709551616 : Nat) : Int), .int .u64 ((y / 340282366920938463463374607431768211456 % 18446744073709551616 : Nat) : Int)]
theorem RowAt.two {w : World} {G : Nat} {t : TypeId} {va vb vc : Value} {s u x y : Nat} (h : RowAt w G t (gtrow va vb vc s u x y)) : w.rangeAt G 5 (tl x) := fun j v hv => by
  match j, hv with
  | 0, hv => simp [tl] at hv; subst hv; exact h.cell rfl
  | 1, hv => simp [tl] at hv; subst hv; exact h.cell rfl
  | 2, hv => simp [tl] at hv; subst hv; exact h.cell rfl
theorem RowAt.prod {w : World} {G : Nat} {t : TypeId} {va vb vc : Value} {s u x y : Nat} (h : RowAt w G t (gtrow va vb vc s u x y)) : w.rangeAt G 8 (tl y) := fun j v hv => by
  match j, hv with
  | 0, hv => simp [tl] at hv; subst hv; exact h.cell rfl
  | 1, hv => simp [tl] at hv; subst hv; exact h.cell rfl
  | 2, hv => simp [tl] at hv; subst hv; exact h.cell rfl
/-- Three unlike primes. -/
structure Tri (p q r : Nat) : Prop where
  hp : Prime p
  hq : Prime q
  hr : Prime r
  pq : p ≠ q
  pr : p ≠ r
  qr : q ≠ r
  p3 : 3 ≤ p
  q3 : 3 ≤ q
  r3 : 3 ≤ r
  pm : p < 9223372036854775808
  qm : q < 9223372036854775808
  rm : r < 9223372036854775808
/-- A trio in memory. -/
def TrioP (w : World) (B : Nat) (v : Value) (p q r : Nat) : Prop := ∃ (G : Nat) (va vb vc : Value) (s t : Nat) (g1 g2 g3 : Int), v = .pointer (some ⟨G, 0, none⟩) ∧ G < B ∧ Fd w B va p g1 ∧ Fd w B vb q g2 ∧ Fd w B vc r g3 ∧
  RowAt w G 175 (gtrow va vb vc s t (p * q) (p * q * r)) ∧ s < q ∧ t < r ∧ ((s : Int) * p) % q = 1 % (q : Int) ∧ ((t : Int) * (p * q)) % r = 1 % (r : Int) ∧ Cert (p : Int) g1 ∧ Cert (q : Int) g2 ∧ Cert (r : Int) g3
theorem TrioP.below {w w' : World} {B : Nat} {v : Value} {p q r : Nat} (h : TrioP w B v p q r) (hb : Below B w w') : TrioP w' B v p q r := by
  obtain ⟨G, va, vb, vc, s, t, g1, g2, g3, rfl, hG, ha, hbb, hc, hr, h1⟩ := h
  exact ⟨G, va, vb, vc, s, t, g1, g2, g3, rfl, hG, ha.below hb, hbb.below hb, hc.below hb, hr.below hb hG, h1⟩
theorem TrioP.mono {w : World} {B B' : Nat} {v : Value} {p q r : Nat} (h : TrioP w B v p q r) (hb : B ≤ B') : TrioP w B' v p q r := by
  obtain ⟨G, va, vb, vc, s, t, g1, g2, g3, rfl, hG, ha, hbb, hc, hr, h1⟩ := h
  exact ⟨G, va, vb, vc, s, t, g1, g2, g3, rfl, by omega, ha.mono hb, hbb.mono hb, hc.mono hb, hr, h1⟩
/-- The field that it has at a place. -/
theorem TrioP.fd {w : World} {B : Nat} {v : Value} {p q r : Nat} (h : TrioP w B v p q r) (i : Nat) (hi : i < 3) :
    ∃ (G : Nat) (vi : Value) (gi : Int), v = .pointer (some ⟨G, 0, none⟩) ∧ w.cell? ⟨G, i, none⟩ = some vi ∧ Fd w B vi ((if i = 0 then p else if i = 1 then q else r : Nat) : Int) gi := by
  obtain ⟨G, va, vb, vc, s, t, g1, g2, g3, rfl, hG, ha, hbb, hc, hr, h1⟩ := h
  match i, hi with
  | 0, _ => exact ⟨G, va, g1, rfl, hr.cell rfl, ha⟩
  | 1, _ => exact ⟨G, vb, g2, rfl, hr.cell rfl, hbb⟩
  | 2, _ => exact ⟨G, vc, g3, rfl, hr.cell rfl, hc⟩
def pk (p q r i : Nat) : Nat := if i = 0 then p else if i = 1 then q else r
theorem TrioP.fdc {w : World} {B : Nat} {v : Value} {p q r : Nat} (h : TrioP w B v p q r) (i : Nat) (hi : i < 3) :
    ∃ (G : Nat) (vi : Value) (gi : Int), v = .pointer (some ⟨G, 0, none⟩) ∧ w.cell? ⟨G, i, none⟩ = some vi ∧ Fd w B vi ((pk p q r i : Nat) : Int) gi ∧ Cert ((pk p q r i : Nat) : Int) gi := by
  obtain ⟨G, va, vb, vc, s, t, g1, g2, g3, rfl, hG, ha, hbb, hc, hr, _, _, _, _, c1, c2, c3⟩ := h
  match i, hi with
  | 0, _ => exact ⟨G, va, g1, rfl, hr.cell rfl, ha, c1⟩
  | 1, _ => exact ⟨G, vb, g2, rfl, hr.cell rfl, hbb, c2⟩
  | 2, _ => exact ⟨G, vc, g3, rfl, hr.cell rfl, hc, c3⟩
set_option maxHeartbeats 1000000 in
set_option maxRecDepth 100000 in
theorem tfield_cert {w : World} {B : Nat} {v : Value} {p q r : Nat} (h : TrioP w B v p q r) (i : Nat) (hi : i < 3) :
    Calls Tryz.prog 121 #[v, .int .i64 (i : Int)] w fun e w' => (∃ vi gi, e = .returned vi ∧ Fd w B vi ((pk p q r i : Nat) : Int) gi ∧ Cert ((pk p q r i : Nat) : Int) gi) ∧ w = w' := by
  obtain ⟨G, vi, gi, rfl, hc, hF⟩ := h.fdc i hi
  have HF := Lib.hid hF
  have f0 : (0 : Int) ≤ (i : Int) := by omega
  have f1 : (i : Int) < 3 := by omega
  have t0 : decide ((i : Int) < 0) = false := decide_eq_false (by omega)
  have t1 : decide ((i : Int) > 2) = false := decide_eq_false (by omega)
  clear h hF
  go_enter Tryz.func121, Tryz.ntmps121
  go_wp2
  go_ret
  exact ⟨⟨vi, gi, rfl, HF.out⟩, rfl⟩
set_option maxHeartbeats 1000000 in
set_option maxRecDepth 100000 in
theorem tfield_yes {w : World} {B : Nat} {v : Value} {p q r : Nat} (h : TrioP w B v p q r) (i : Nat) (hi : i < 3) :
    Calls Tryz.prog 121 #[v, .int .i64 (i : Int)] w fun e w' => (∃ vi gi, e = .returned vi ∧ Fd w B vi ((pk p q r i : Nat) : Int) gi) ∧ w = w' := by
  obtain ⟨G, vi, gi, rfl, hc, hF⟩ := h.fd i hi
  have HF := Lib.hid hF
  have f0 : (0 : Int) ≤ (i : Int) := by omega
  have f1 : (i : Int) < 3 := by omega
  have t0 : decide ((i : Int) < 0) = false := decide_eq_false (by omega)
  have t1 : decide ((i : Int) > 2) = false := decide_eq_false (by omega)
  clear h hF
  go_enter Tryz.func121, Tryz.ntmps121
  go_wp2
  go_ret
  exact ⟨⟨vi, gi, rfl, HF.out⟩, rfl⟩
set_option maxHeartbeats 1000000 in
set_option maxRecDepth 100000 in
theorem tfield_no {w : World} {B : Nat} {v : Value} {p q r : Nat} (h : TrioP w B v p q r) (i : Int) (hi : i < 0 ∨ 2 < i) (h0 : -9223372036854775808 ≤ i) (h1 : i ≤ 9223372036854775807) :
    Calls Tryz.prog 121 #[v, .int .i64 i] w fun e w' => e = .returned (.pointer none) ∧ w = w' := by
  obtain ⟨G, vi, gi, rfl, hc, hF⟩ := h.fd 0 (by omega)
  clear h hF hc
  rcases hi with hi | hi
  · have t0 : decide (i < 0) = true := decide_eq_true hi
    go_enter Tryz.func121, Tryz.ntmps121
    go_wp2
    go_ret
    exact ⟨rfl, rfl⟩
  · have t0 : decide (i < 0) = false := decide_eq_false (by omega)
    have t1 : decide (i > 2) = true := decide_eq_true (by omega)
    go_enter Tryz.func121, Tryz.ntmps121
    go_wp2
    go_ret
    exact ⟨rfl, rfl⟩
theorem tfield_nil (i : Int) (w : World) : Calls Tryz.prog 121 #[.pointer none, .int .i64 i] w fun e w' => e = .returned (.pointer none) ∧ w = w' := by
  go_enter Tryz.func121, Tryz.ntmps121
  go_wp2
  go_ret
  exact ⟨rfl, rfl⟩
set_option maxHeartbeats 1000000 in
set_option maxRecDepth 100000 in
theorem tprod_yes {w : World} {B : Nat} {v : Value} {p q r : Nat} (h : TrioP w B v p q r) (hB0 : B ≤ w.heap.size) :
    Calls Tryz.prog 78 #[v] w fun e w' => e = .returned (.agg (three (p * q * r))) ∧ Below w.heap.size w w' := by
  have hz := (zero_of_info info_three).1
  obtain ⟨G, va, vb, vc, s, t, g1, g2, g3, rfl, hG, ha, hbb, hc, hr, h1⟩ := h
  obtain ⟨n, hn⟩ : ∃ n, n = p * q * r := ⟨_, rfl⟩
  rw [← hn] at hr ⊢
  obtain ⟨r0, hB⟩ := lay1 w 69 (three 0)
  have hr1 := (hr.alloc (.cells (three 0) 69)).prod
  have HR1 := Lib.hid hr1
  have HR0 := Lib.hid r0
  have HB := Lib.hid hB
  clear hn ha hbb hc hr h1 r0 hB hr1
  go_enter Tryz.func78, Tryz.ntmps78
  go_wp2_with (first | (refine wpList_load_mid rfl _ _ rfl _ _ rfl _ _ (HR1.out) Tryz.underlying69 rfl (by exact size_three) ?_) | (refine wpList_store_row rfl _ _ _ rfl _ _ rfl rfl _ _ (HR0.out) size_three rfl (three_one _) ?_))
  refine bodyPost_ret (results_cell_row rfl _ _ _ _ _ _ _ rfl (HR0.out.setRow _) Tryz.underlying69 rfl size_three) (by rfl) ?_
  exact ⟨rfl, below_setRow HB.out (Nat.le_refl _) _⟩
theorem tprod_nil (w : World) : Calls Tryz.prog 78 #[.pointer none] w fun e w' => e = .returned (.agg (three 0)) ∧ Below w.heap.size w w' := by
  have hz := (zero_of_info info_three).1
  obtain ⟨r0, hB⟩ := lay1 w 69 (three 0)
  have HR0 := Lib.hid r0
  have HB := Lib.hid hB
  clear r0 hB
  go_enter Tryz.func78, Tryz.ntmps78
  go_wp2_with (refine wpList_store_row rfl _ _ _ rfl _ _ rfl rfl _ _ (HR0.out) size_three rfl (three_one _) ?_)
  refine bodyPost_ret (results_cell_row rfl _ _ _ _ _ _ _ rfl (HR0.out.setRow _) Tryz.underlying69 rfl size_three) (by rfl) ?_
  exact ⟨rfl, below_setRow HB.out (Nat.le_refl _) _⟩
/-- Three words side by side. -/
def w3n (a b c : Nat) : Nat := a + 18446744073709551616 * b + 340282366920938463463374607431768211456 * c
theorem wd_w3n {a b c : Nat} (ha : a < 18446744073709551616) (hb : b < 18446744073709551616) (hc : c < 18446744073709551616) (i : Nat) (hi : i < 3) : wd (w3n a b c) i = pk a b c i := by
  unfold wd w3n pk
  match i, hi with
  | 0, _ => simp only [Nat.pow_zero, Nat.div_one, if_pos]; omega
  | 1, _ => simp only [Nat.pow_one]; simp; omega
  | 2, _ => simp only [Nat.reducePow]; simp; omega
theorem w3n_mod {a b c : Nat} (ha : a < 18446744073709551616) (hb : b < 18446744073709551616) (hc : c < 18446744073709551616) : w3n a b c % 18446744073709551616 ^ 3 = w3n a b c := by
  unfold w3n
  simp only [Nat.reducePow]; omega
theorem three_w3n {a b c : Nat} (ha : a < 18446744073709551616) (hb : b < 18446744073709551616) (hc : c < 18446744073709551616) : three (w3n a b c) = #[.int .u64 (a : Int), .int .u64 (b : Int), .int .u64 (c : Int)] := three_words ha hb hc
set_option maxHeartbeats 1000000 in
set_option maxRecDepth 100000 in
theorem plus_any (x y k : Nat) (hk : k < 18446744073709551616) (w : World) :
    Calls Tryz.prog 181 #[.agg (three x), .agg (three y), .int .u64 (k : Nat)] w fun e w' => e = .returned (.agg (three (x + y * k))) ∧ Below w.heap.size w w' := by
  have hz := (zero_of_info info_three).1
  have HSc : Hid (∀ W, Calls Tryz.prog 75 #[.agg (three y), .int .u64 (k : Nat)] W fun e w' => e = .returned (.tuple #[.agg (three (y * k)), .int .u64 (cyM y k 3 : Nat)]) ∧ Below W.heap.size W w') := Lib.hid (fun W => lscale_any y k hk W)
  obtain ⟨c, hc⟩ : ∃ c, c = cyM y k 3 := ⟨_, rfl⟩
  obtain ⟨z, hz0⟩ : ∃ z, z = y * k := ⟨_, rfl⟩
  rw [← hc, ← hz0] at HSc
  rw [← hz0]
  have HAd : Hid (∀ W, Calls Tryz.prog 213 #[.agg (three x), .agg (three z)] W fun e w' => ∃ b, e = .returned (.tuple #[.agg (three (x + z)), .bool b]) ∧ Below W.heap.size W w') := Lib.hid (fun W => (ladd_any x z W).mono fun e w' h => ⟨_, h⟩)
  obtain ⟨s, hs⟩ : ∃ s, s = x + z := ⟨_, rfl⟩
  rw [← hs] at HAd ⊢
  clear hc hz0 hs hk
  have R0 := Lib.hid (Rows3.new w 69 (three x) 69 (three y) 69 (three 0))
  go_enter Tryz.func181, Tryz.ntmps181
  go_wp2_with (refine wpList_load_row rfl _ _ rfl _ rfl _ _ _ _ (R0.out.2.1) Tryz.underlying69 rfl size_three ?_)
  generalize (((w.alloc (.cells (three x) 69)).alloc (.cells (three y) 69)).alloc (.cells (three 0) 69)) = w1 at *
  refine (HSc.out _).mono ?_
  rintro e w2 ⟨rfl, hB2⟩
  have hg2 := R0.out.2.2.1.lt
  have s2 := hB2.size
  have R2 : Hid (Rows3 w (w2.alloc (.cells (three z) 69)) 69 (three x) 69 (three y) 69 (three 0)) := Lib.hid ⟨(R0.out.1.keep hB2).alloc _, (R0.out.2.1.keep hB2).alloc _, (R0.out.2.2.1.keep hB2).alloc _, (R0.out.2.2.2.trans (hB2.mono R0.out.2.2.2.size)).alloc (by omega) _⟩
  have H0 := Lib.hid (RowAt.new w2 69 (three 0))
  have H1 := Lib.hid (RowAt.new w2 69 (three z))
  clear R0 hB2
  go_wp2_with (first | (refine wpList_store_row rfl _ _ _ rfl _ _ rfl rfl _ _ (H0.out) size_three rfl (three_one _) ?_; rw [World.setRow_alloc_new]) | (refine wpList_load_row rfl _ _ rfl _ rfl _ _ _ _ (R2.out.1) Tryz.underlying69 rfl size_three ?_) | (refine wpList_load_row rfl _ _ rfl _ rfl _ _ _ _ (H1.out) Tryz.underlying69 rfl size_three ?_))
  generalize hW2 : w2.alloc (.cells (three z) 69) = w3 at *
  refine (HAd.out _).mono ?_
  rintro e w4 ⟨b, rfl, hB4⟩
  have s4 := hB4.size
  have hg3 := R2.out.2.2.1.lt
  have R4 : Hid (Rows3 w (w4.alloc (.cells (three s) 69)) 69 (three x) 69 (three y) 69 (three 0)) := Lib.hid ⟨(R2.out.1.keep hB4).alloc _, (R2.out.2.1.keep hB4).alloc _, (R2.out.2.2.1.keep hB4).alloc _, (R2.out.2.2.2.trans (hB4.mono R2.out.2.2.2.size)).alloc (by omega) _⟩
  have H2 := Lib.hid (RowAt.new w4 69 (three 0))
  have H3 := Lib.hid (RowAt.new w4 69 (three s))
  clear R2 hB4 hW2
  go_wp2_with (first | (refine wpList_store_row rfl _ _ _ rfl _ _ rfl rfl _ _ (H2.out) size_three rfl (three_one _) ?_; rw [World.setRow_alloc_new]) | (refine wpList_load_row rfl _ _ rfl _ rfl _ _ _ _ (H3.out) Tryz.underlying69 rfl size_three ?_) | (refine wpList_store_row rfl _ _ _ rfl _ _ rfl rfl _ _ (R4.out.2.2.1) size_three rfl (three_one _) ?_))
  refine bodyPost_ret (results_cell_row rfl _ _ _ _ _ _ _ rfl (R4.out.2.2.1.setRow _) Tryz.underlying69 rfl size_three) (by rfl) ?_
  exact ⟨rfl, below_setRow R4.out.2.2.2 (by omega) _⟩
end Go.Proofs.YtemoginoanhjlaaGreat
end

section
/- epicycleref01: bits, words, comparing, rests, sums, moving. -/
namespace Go.Proofs.YtemoginoanhjlaaGreat
open Go.RowKit
theorem info_bits : (Tryz.prog.info? 114).map (fun i => (i.zero, i.size)) = some (some (.agg (bcells 0)), 256) := by kernel_rfl
theorem size_bits : (Tryz.prog.info? 114).map (·.size) = some 256 := by kernel_rfl
theorem info_words : (Tryz.prog.info? 58).map (fun i => (i.zero, i.size)) = some (some (.agg (three 0)), 3) := by kernel_rfl
theorem size_words : (Tryz.prog.info? 58).map (·.size) = some 3 := by kernel_rfl
theorem two_le {i n : Nat} (h : i ≤ n) : 2 ^ i ≤ 2 ^ n := Nat.pow_le_pow_right (by omega) h
theorem r1power_any (n : Nat) (hn : n < 64) (w : World) :
    Calls Tryz.prog 128 #[.int .i64 (n : Int)] w fun e w' => e = .returned (.int .u64 ((2 ^ n : Nat) : Int)) ∧ w = w' := by
  go_enter Tryz.func128, Tryz.ntmps128
  go_wp2_with fail
  go_loop [3, 4] (fun P I => ∃ i : Nat, I = .int .i64 i ∧ i ≤ n ∧ P = .int .u64 ((2 ^ i : Nat) : Int)) (fun _ I => n - (intOf I).toNat)
  case atStart => exact ⟨0, rfl, by omega, rfl⟩
  case round =>
    obtain ⟨i, rfl, hi, rfl⟩ := hrel
    by_cases hlt : i < n
    · have h1 : 2 ^ (i + 1) ≤ 2 ^ 63 := two_le (by omega)
      have h2 : 2 ^ (i + 1) = 2 * 2 ^ i := by rw [Nat.pow_succ]; omega
      obtain ⟨v, hv⟩ : ∃ v, v = 2 ^ i := ⟨_, rfl⟩
      rw [← hv] at h2 ⊢
      have h3 : v ≤ 4611686018427387904 := by rw [h2] at h1; simp only [Nat.reducePow] at h1; omega
      have HV := Lib.hid h2
      clear h1 h2 hv
      go_wp2
      go_round
      case rel => exact ⟨i + 1, by go_num, by omega, by rw [HV.out]; go_num⟩
      case measure => simp [intOf]; omega
    · obtain rfl : i = n := by omega
      go_wp2
      go_ret
      exact ⟨rfl, rfl⟩
theorem bit_words {a i : Nat} : a.testBit i = decide (wd a (i / 64) / 2 ^ (i % 64) % 2 = 1) := by
  rw [wd_pow]
  have h1 : (a / 2 ^ (64 * (i / 64)) % 2 ^ 64).testBit (i % 64) = a.testBit i := by
    rw [Nat.testBit_mod_two_pow, Nat.testBit_div_two_pow]
    have e2 : i % 64 + 64 * (i / 64) = i := by omega
    have l : i % 64 < 64 := Nat.mod_lt _ (by omega)
    rw [e2]; simp [l]
  rw [← h1, Nat.testBit_eq_decide_div_mod_eq]
set_option maxHeartbeats 1000000 in
set_option maxRecDepth 100000 in
theorem r1bit_any (a : Nat) (ha : a < 6277101735386680763835789423207666416102355444464034512896) (w : World) :
    Calls Tryz.prog 71 #[.agg (three a)] w fun e w' => e = .returned (.agg (bcells a)) ∧ Below w.heap.size w w' := by
  have hz := (zero_of_info info_bits).1
  have hfin : Hid (a % 2 ^ 192 = a) := Lib.hid (Nat.mod_eq_of_lt ha)
  clear ha
  have R0 := Lib.hid (Rows3.new w 58 (three a) 114 (bcells 0) 114 (bcells 0))
  go_enter Tryz.func71, Tryz.ntmps71
  go_wp2_with fail
  generalize (((w.alloc (.cells (three a) 58)).alloc (.cells (bcells 0) 114)).alloc (.cells (bcells 0) 114)) = w1 at *
  go_loopw [4] (fun I wr => ∃ i : Nat, I = .int .i64 i ∧ i ≤ 192 ∧ Hid (Rows3 w wr 58 (three a) 114 (bcells 0) 114 (bcells (a % 2 ^ i)))) (fun I _ => 192 - (intOf I).toNat)
  case atStart => exact ⟨0, rfl, by omega, Lib.hid (by rw [Nat.pow_zero, Nat.mod_one]; exact R0.out)⟩
  case round =>
    clear R0
    obtain ⟨i, rfl, hi, R⟩ := hrel
    by_cases hlt : i < 192
    · obtain ⟨q, hq⟩ : ∃ q, q = i / 64 := ⟨_, rfl⟩
      obtain ⟨r, hr⟩ : ∃ r, r = i % 64 := ⟨_, rfl⟩
      have c0 := R.out.1.cell (three_get a q (by omega))
      have b0 := wd_lt a q
      have hb : a.testBit i = decide (wd a q / 2 ^ r % 2 = 1) := by rw [hq, hr]; exact bit_words
      have v1 : (i : Int) / 64 = (q : Int) := by omega
      have v2 : (i : Int).tdiv 64 = (q : Int) := by rw [Int.tdiv_eq_ediv_of_nonneg (by omega)]; exact v1
      have v3 : (i : Int) % 64 = (r : Int) := by omega
      have v4 : (i : Int).tmod 64 = (r : Int) := by rw [Int.tmod_eq_emod_of_nonneg (by omega)]; exact v3
      have l0 : (0 : Int) ≤ (q : Int) := by omega
      have l1 : (q : Int) < 3 := by omega
      have hP : Hid (∀ W, Calls Tryz.prog 128 #[.int .i64 (r : Int)] W fun e w' => e = .returned (.int .u64 ((2 ^ r : Nat) : Int)) ∧ W = w') := Lib.hid (fun W => r1power_any r (by omega) W)
      have p0 : 0 < 2 ^ r := Nat.two_pow_pos r
      have p1 : 2 ^ r ≤ 2 ^ 63 := two_le (by omega)
      obtain ⟨x, hx⟩ : ∃ x, x = wd a q := ⟨_, rfl⟩
      obtain ⟨p, hp⟩ : ∃ p, p = 2 ^ r := ⟨_, rfl⟩
      rw [← hx] at c0 hb b0
      rw [← hp] at hb hP p0 p1
      have p2 : p ≤ 9223372036854775808 := by simpa using p1
      have tp : ((p : Int) == 0) = false := by simp; omega
      have hb' : (((x : Int) / (p : Int)) % 2 == 1) = a.testBit i := by
        rw [hb, Bool.eq_iff_iff]
        simp only [beq_iff_eq, decide_eq_true_eq]
        have : ((x / p % 2 : Nat) : Int) = (x : Int) / (p : Int) % 2 := by rw [Int.natCast_emod, Int.natCast_ediv]; rfl
        omega
      have x0 : (0 : Int) ≤ (x : Int) / (p : Int) := Int.ediv_nonneg (by omega) (by omega)
      have x1 : (x : Int) / (p : Int) ≤ 18446744073709551615 := Int.ediv_le_of_le_mul (by omega) (by have : (18446744073709551615 : Int) ≤ 18446744073709551615 * (p : Int) := by omega
                                                                                                     omega)
      have hst := bcells_next (n := a) (i := i) (by omega)
      have HST := Lib.hid hst
      have f0 : (0 : Int) ≤ (i : Int) := by omega
      have f1 : (i : Int) < 256 := by omega
      clear hq hr hb hx hp p1 hst
      go_upto_region 5 with fail
      refine wp_region_qtail 11 (by kernel_rfl) (by kernel_rfl) ?_
      simp only [List.take_succ_cons, List.take_zero, List.drop_succ_cons, List.drop_zero]
      repeat (go_big_quiet_step ((first | (go_at_call 128; exact Calls.quiet_of (quiet0 (hP.out _))))))
      refine wpQuiet_nil ?_
      intro _ hw'
      obtain ⟨nq, hw''⟩ := hw'
      subst hw''
      have e0 := (R.out.drewN nq).2.2.1.cell (bcells_get _ i (by omega))
      have e1 := (R.out.drewN nq).2.2.1.frozen i
      have R' := Lib.hid ((R.out.drewN nq).set i (.bool (a.testBit i)) (d := bcells (a % 2 ^ (i + 1))) HST.out)
      clear c0
      go_wp2
      go_roundw
      case rel => exact ⟨i + 1, by go_num, by omega, R'⟩
      case measure => simp [intOf]; omega
    · obtain rfl : i = 192 := by omega
      have r3 := R.out.2.2.1
      rw [hfin.out] at r3
      have r2 := R.out.2.1
      obtain ⟨r2', hB'⟩ := R.out.ret (bcells a)
      have HB' := Lib.hid hB'
      clear hB' R
      go_wp2_with (first | (refine wpList_load_row rfl _ _ rfl _ rfl _ _ _ _ r3 Tryz.underlying114 rfl size_bits ?_) | (refine wpList_store_row rfl _ _ _ rfl _ _ rfl rfl _ _ r2 size_bits rfl (bcells_one _) ?_))
      refine bodyPost_ret (results_cell_row rfl _ _ _ _ _ _ _ rfl r2' Tryz.underlying114 rfl size_bits) (by rfl) ?_
      exact ⟨rfl, HB'.out⟩
set_option maxHeartbeats 1000000 in
set_option maxRecDepth 100000 in
theorem r1word_any (b n : Nat) (hn : n ≤ 192) (w : World) :
    Calls Tryz.prog 130 #[.agg (bcells b), .int .i64 (n : Int)] w fun e w' => e = .returned (.int .u64 ((b / 2 ^ n % 2 ^ 64 : Nat) : Int)) ∧ Below w.heap.size w w' := by
  obtain ⟨R0, hB0⟩ := lay1 w 114 (bcells b)
  have HR0 := Lib.hid R0
  have HB0 := Lib.hid hB0
  clear R0 hB0
  go_enter Tryz.func130, Tryz.ntmps130
  go_wp2_with fail
  generalize (w.alloc (.cells (bcells b) 114)) = w1 at *
  go_loopw [5, 6] (fun N I wr => ∃ i : Nat, I = .int .i64 ((i : Int) - 1) ∧ i ≤ 64 ∧ N = .int .u64 ((b / 2 ^ (n + i) % 2 ^ (64 - i) : Nat) : Int) ∧ Hid (RowAt wr w.heap.size 114 (bcells b)) ∧ Hid (Below w.heap.size w wr)) (fun _ I _ => (intOf I + 1).toNat)
  case atStart => exact ⟨64, rfl, by omega, by rw [Nat.sub_self, Nat.pow_zero, Nat.mod_one]; rfl, HR0, HB0⟩
  case round =>
    clear HR0 HB0
    obtain ⟨j, rfl, hi, rfl, R, HB⟩ := hrel
    rcases j with _ | i
    · have t1 : decide ((((0 : Nat) : Int) - 1) ≥ 0) = false := by decide
      go_wp2
      go_ret
      exact ⟨rfl, HB.out⟩
    · have e1 : (((i + 1 : Nat) : Int) - 1) = (i : Int) := by omega
      rw [e1]
      have hnx := word_next b (n + i) (63 - i)
      rw [show 63 - i + 1 = 64 - i by omega] at hnx
      have hlt := Nat.mod_lt (b / 2 ^ (n + i + 1)) (Nat.two_pow_pos (63 - i))
      have h63 : 2 ^ (63 - i) ≤ 2 ^ 63 := two_le (by omega)
      rw [show n + (i + 1) = n + i + 1 by omega, show 64 - (i + 1) = 63 - i by omega]
      obtain ⟨v, hv⟩ : ∃ v, v = b / 2 ^ (n + i + 1) % 2 ^ (63 - i) := ⟨_, rfl⟩
      rw [← hv] at hnx hlt ⊢
      have v1 : v < 9223372036854775808 := by
        have h := Nat.lt_of_lt_of_le hlt h63
        simpa using h
      have f0 : (0 : Int) ≤ (n : Int) + (i : Int) := by omega
      have f1 : (n : Int) + (i : Int) < 256 := by omega
      have t1 : decide ((i : Int) ≥ 0) = true := by simp
      have c0 := R.out.cell (bcells_get b (n + i) (by omega))
      obtain ⟨u, hu⟩ : ∃ u, u = b.testBit (n + i) := ⟨_, rfl⟩
      rw [← hu] at hnx c0
      have ea : ((n : Int) + (i : Int)).toNat = n + i := by omega
      clear hv hlt h63 hu e1
      cases u
      · have HN : Hid (b / 2 ^ (n + i) % 2 ^ (64 - i) = 2 * v) := Lib.hid (by rw [hnx]; simp)
        clear hnx
        go_wp2
        go_roundw
        case rel => exact ⟨i, rfl, by omega, by rw [HN.out]; go_num, R, HB⟩
        case measure => simp [intOf]
      · have HN : Hid (b / 2 ^ (n + i) % 2 ^ (64 - i) = 2 * v + 1) := Lib.hid (by rw [hnx]; simp)
        clear hnx
        go_wp2
        go_roundw
        case rel => exact ⟨i, rfl, by omega, by rw [HN.out]; go_num, R, HB⟩
        case measure => simp [intOf]
set_option maxHeartbeats 1000000 in
set_option maxRecDepth 100000 in
theorem r1less_any (a b : Nat) (ha : a < 2 ^ 256) (hb : b < 2 ^ 256) (w : World) :
    Calls Tryz.prog 79 #[.agg (bcells a), .agg (bcells b)] w fun e w' => e = .returned (.bool (decide (a < b))) ∧ Below w.heap.size w w' := by
  have R0 := Lib.hid (Rows2.new w 114 (bcells a) 114 (bcells b))
  have h0 : Hid (a / 2 ^ 256 = b / 2 ^ 256) := Lib.hid (by rw [Nat.div_eq_of_lt ha, Nat.div_eq_of_lt hb])
  clear ha hb
  go_enter Tryz.func79, Tryz.ntmps79
  go_wp2_with fail
  generalize ((w.alloc (.cells (bcells a) 114)).alloc (.cells (bcells b) 114)) = w1 at *
  go_loopw [5] (fun I wr => ∃ i : Nat, I = .int .i64 ((i : Int) - 1) ∧ i ≤ 256 ∧ Hid (a / 2 ^ i = b / 2 ^ i) ∧ Hid (Rows2 w wr 114 (bcells a) 114 (bcells b))) (fun I _ => (intOf I + 1).toNat)
  case atStart => exact ⟨256, rfl, by omega, h0, R0⟩
  case round =>
    clear R0 h0
    obtain ⟨j, rfl, hi, hE, R⟩ := hrel
    rcases j with _ | i
    · have fin : Hid (decide (a < b) = false) := Lib.hid (by
        have h := hE.out
        rw [Nat.pow_zero, Nat.div_one, Nat.div_one] at h
        rw [h]; simp)
      have t1 : decide ((((0 : Nat) : Int) - 1) ≥ 0) = false := by decide
      go_wp2
      go_ret
      exact ⟨ret_bool fin.out.symm, R.out.2.2⟩
    · have e1 : (((i + 1 : Nat) : Int) - 1) = (i : Int) := by omega
      rw [e1]
      have f0 : (0 : Int) ≤ (i : Int) := by omega
      have f1 : (i : Int) < 256 := by omega
      have c0 := R.out.1.cell (bcells_get a i (by omega))
      have c1 := R.out.2.1.cell (bcells_get b i (by omega))
      have HB : Hid (∀ n, Below w.heap.size w (wr.drewN n)) := Lib.hid (fun n => below_drewN R.out.2.2 n)
      have t1 : decide ((i : Int) ≥ 0) = true := by simp
      by_cases k1 : a.testBit i = b.testBit i
      · have hn : Hid (a / 2 ^ i = b / 2 ^ i) := Lib.hid (less_next hE.out k1)
        have R' : Hid (∀ n, Rows2 w (wr.drewN n) 114 (bcells a) 114 (bcells b)) := Lib.hid (fun n => ⟨R.out.1, R.out.2.1, HB.out n⟩)
        rw [k1] at c0
        obtain ⟨y, hy⟩ : ∃ y, y = b.testBit i := ⟨_, rfl⟩
        rw [← hy] at c0 c1
        clear hy k1 e1
        have ty : (y != y) = false := by cases y <;> rfl
        go_wp2
        go_quiet (fail)
        go_wp2
        go_roundw
        case rel => exact ⟨i, rfl, by omega, hn, R'.out _⟩
        case measure => simp [intOf]
      · have fin : Hid (decide (a < b) = b.testBit i) := Lib.hid (less_at hE.out k1)
        obtain ⟨x, hx⟩ : ∃ x, x = a.testBit i := ⟨_, rfl⟩
        obtain ⟨y, hy⟩ : ∃ y, y = b.testBit i := ⟨_, rfl⟩
        rw [← hx] at c0 k1
        rw [← hy] at c1 k1 fin
        have hxy : x = !y := by cases x <;> cases y <;> simp at k1 ⊢
        subst hxy
        clear hx hy k1 e1
        cases y
        · go_wp2
          go_quiet (fail)
          go_wp2
          go_ret
          exact ⟨ret_bool fin.out.symm, HB.out _⟩
        · go_wp2
          go_quiet (fail)
          go_wp2
          go_ret
          exact ⟨ret_bool fin.out.symm, HB.out _⟩
set_option maxHeartbeats 1000000 in
set_option maxRecDepth 100000 in
theorem r1sum_any (a b : Nat) (w : World) :
    Calls Tryz.prog 73 #[.agg (bcells a), .agg (bcells b)] w fun e w' => e = .returned (.agg (bcells (a + b))) ∧ Below w.heap.size w w' := by
  have hz := (zero_of_info info_bits).1
  have R0 := Lib.hid (Rows4.new w 114 (bcells a) 114 (bcells b) 114 (bcells 0) 114 (bcells 0))
  obtain ⟨d, hd⟩ : ∃ d, d = a + b := ⟨_, rfl⟩
  have HS : Hid (∀ i, d.testBit i = ((a.testBit i != b.testBit i) != bcarry a b i)) := Lib.hid (fun i => by rw [hd]; exact sum_bit a b i)
  rw [← hd]
  clear hd
  go_enter Tryz.func73, Tryz.ntmps73
  go_wp2_with fail
  generalize ((((w.alloc (.cells (bcells a) 114)).alloc (.cells (bcells b) 114)).alloc (.cells (bcells 0) 114)).alloc (.cells (bcells 0) 114)) = w1 at *
  go_loopw [6, 8] (fun C I wr => ∃ i : Nat, I = .int .i64 i ∧ i ≤ 256 ∧ C = .bool (bcarry a b i) ∧ Hid (Rows4 w wr 114 (bcells a) 114 (bcells b) 114 (bcells 0) 114 (bcells (d % 2 ^ i)))) (fun _ I _ => 256 - (intOf I).toNat)
  case atStart => exact ⟨0, rfl, by omega, by rw [bcarry_zero], Lib.hid (by rw [Nat.pow_zero, Nat.mod_one]; exact R0.out)⟩
  case round =>
    clear R0
    obtain ⟨i, rfl, hi, rfl, R⟩ := hrel
    by_cases hlt : i < 256
    · have c0 := R.out.1.cell (bcells_get a i hlt)
      have c1 := R.out.2.1.cell (bcells_get b i hlt)
      have hb := HS.out i
      have hc := bcarry_succ a b i
      have HST := Lib.hid (bcells_next (n := d) hlt)
      have f0 : (0 : Int) ≤ (i : Int) := by omega
      have f1 : (i : Int) < 256 := by omega
      obtain ⟨x, hx⟩ : ∃ x, x = a.testBit i := ⟨_, rfl⟩
      obtain ⟨y, hy⟩ : ∃ y, y = b.testBit i := ⟨_, rfl⟩
      obtain ⟨c, hc0⟩ : ∃ c, c = bcarry a b i := ⟨_, rfl⟩
      obtain ⟨c', hc1⟩ : ∃ c', c' = bcarry a b (i + 1) := ⟨_, rfl⟩
      obtain ⟨z, hz0⟩ : ∃ z, z = d.testBit i := ⟨_, rfl⟩
      rw [← hx] at c0 hb hc
      rw [← hy] at c1 hb hc
      rw [← hc0] at hb hc ⊢
      rw [← hc1] at hc
      rw [← hz0] at hb HST
      have HC1 := Lib.hid hc1
      clear hx hy hc0 hc1 hz0
      have c0' : ∀ n, (wr.drewN n).cell? ⟨w.heap.size, i, none⟩ = some (.bool x) := fun n => c0
      have HR : Hid (∀ n, Rows4 w ((wr.drewN n).setCell ⟨w.heap.size + 1 + 1 + 1, i, none⟩ (.bool z)) 114 (bcells a) 114 (bcells b) 114 (bcells 0) 114 (bcells (d % 2 ^ (i + 1)))) := Lib.hid (fun n => (R.out.drewN n).set i _ HST.out)
      clear c0'
      have HC0 : Hid (wr.cell? ⟨w.heap.size, i, none⟩ = some (.bool x)) := Lib.hid c0
      have HC2 : Hid (wr.cell? ⟨w.heap.size + 1, i, none⟩ = some (.bool y)) := Lib.hid c1
      have HK : Hid (∀ n v, ((wr.drewN n).setCell ⟨w.heap.size + 1 + 1 + 1, i, none⟩ v).cell? ⟨w.heap.size, i, none⟩ = some (.bool x) ∧ ((wr.drewN n).setCell ⟨w.heap.size + 1 + 1 + 1, i, none⟩ v).cell? ⟨w.heap.size + 1, i, none⟩ = some (.bool y)) := Lib.hid (fun n v => by
        have h := (R.out.drewN n).set i v rfl
        have e0 : ((wr.drewN n).setCell ⟨w.heap.size + 1 + 1 + 1, i, none⟩ v).cell? ⟨w.heap.size, i, none⟩ = wr.cell? ⟨w.heap.size, i, none⟩ := by
          rw [h.1.cell (bcells_get a i hlt), R.out.1.cell (bcells_get a i hlt)]
        have e1 : ((wr.drewN n).setCell ⟨w.heap.size + 1 + 1 + 1, i, none⟩ v).cell? ⟨w.heap.size + 1, i, none⟩ = wr.cell? ⟨w.heap.size + 1, i, none⟩ := by
          rw [h.2.1.cell (bcells_get b i hlt), R.out.2.1.cell (bcells_get b i hlt)]
        exact ⟨e0.trans HC0.out, e1.trans HC2.out⟩)
      go_upto_region 6 with fail
      refine wp_region_qtail 10 (by kernel_rfl) (by kernel_rfl) ?_
      simp only [List.take_succ_cons, List.take_zero, List.drop_succ_cons, List.drop_zero]
      repeat (go_big_quiet_step (fail))
      refine wpQuiet_nil ?_
      intro _ hw'
      obtain ⟨nq, hw''⟩ := hw'
      subst hw''
      have e0 := (R.out.drewN nq).2.2.2.1.cell (bcells_get _ i hlt)
      have e1 := (R.out.drewN nq).2.2.2.1.frozen i
      have k0 : ∀ v, ((wr.drewN nq).setCell ⟨w.heap.size + 1 + 1 + 1, i, none⟩ v).cell? ⟨w.heap.size, i, none⟩ = some (.bool x) := fun v => (HK.out nq v).1
      have k1 : ∀ v, ((wr.drewN nq).setCell ⟨w.heap.size + 1 + 1 + 1, i, none⟩ v).cell? ⟨w.heap.size + 1, i, none⟩ = some (.bool y) := fun v => (HK.out nq v).2
      have HR' := Lib.hid (HR.out nq)
      clear HR HK c0 c1
      subst hb
      subst hc
      cases x <;> cases y <;> cases c <;> go_wp2 <;> go_roundw
      all_goals first | exact ⟨i + 1, by go_num, by omega, by rw [← HC1.out]; first | done | rfl, HR'⟩ | (simp [intOf]; omega)
    · obtain rfl : i = 256 := by omega
      have r3 := R.out.2.2.2.1
      rw [bcells_mod] at r3
      have r2 := R.out.2.2.1
      obtain ⟨r2', hB'⟩ := R.out.ret (bcells d)
      have HB' := Lib.hid hB'
      clear hB' R
      go_wp2_with (first | (refine wpList_load_row rfl _ _ rfl _ rfl _ _ _ _ r3 Tryz.underlying114 rfl size_bits ?_) | (refine wpList_store_row rfl _ _ _ rfl _ _ rfl rfl _ _ r2 size_bits rfl (bcells_one _) ?_))
      refine bodyPost_ret (results_cell_row rfl _ _ _ _ _ _ _ rfl r2' Tryz.underlying114 rfl size_bits) (by rfl) ?_
      exact ⟨rfl, HB'.out⟩
end Go.Proofs.YtemoginoanhjlaaGreat
end

section
/- epicycleref01: moving, products, turning, words; epicycleref23. -/
namespace Go.Proofs.YtemoginoanhjlaaGreat
open Go.RowKit
theorem run_load_row {P : Program} {w : World} {G : Nat} {t ty : TypeId} {c : Array Value} {d : TypeDesc} (h : RowAt w G t c) (hu : P.underlying ty = some d) (hd : (match d with | .struct _ | .array _ _ => true | _ => false) = true) (hi : (P.info? ty).map (·.size) = some c.size) :
    (Instr.loadAt ty (.pointer (some ⟨G, 0, none⟩))).run P w = .ok (.agg c) w := by
  simp only [Instr.loadAt, Instr.sureAddr, Sem.run_bind, Sem.run_pure, Result.andThen]
  exact run_loadVar_row w G t ty c (0, 0) d h hu hd hi
theorem yieldsIf_load_row {P : Program} {ops : Array Oper} {S : World → Prop} {op : Oper} {a : Act} (hw : Region.wanted op (yielded ops a.tmps) = true) (ty : TypeId) (x : Operand) (ho : op.op = .load ty x)
    (G : Nat) (hx : a.eval x = .pointer (some ⟨G, 0, none⟩)) (t : TypeId) (c : Array Value) (d : TypeDesc) (hS : ∀ w, S w → RowAt w G t c)
    (hu : P.underlying ty = some d) (hd : (match d with | .struct _ | .array _ _ => true | _ => false) = true) (hi : (P.info? ty).map (·.size) = some c.size) : YieldsIf P ops S op (.agg c) a :=
  .inl ⟨hw, fun w hw' => by
    unfold execOp
    simp only [ho, hx, Instr.loadAt, Instr.sureAddr, Sem.run_bind, Sem.run_pure, Result.andThen_ok, run_loadVar_row w G t ty c (0, 0) d (hS w hw') hu hd hi]⟩
set_option maxHeartbeats 1000000 in
set_option maxRecDepth 100000 in
theorem r1moved_any (a n : Nat) (hn : n < 64) (w : World) :
    Calls Tryz.prog 129 #[.agg (bcells a), .int .i64 (n : Int), .int .i64 256] w fun e w' => e = .returned (.agg (bcells (a * 2 ^ n))) ∧ Below w.heap.size w w' := by
  have hz := (zero_of_info info_bits).1
  obtain ⟨d, hd⟩ : ∃ d, d = a * 2 ^ n := ⟨_, rfl⟩
  have HS : Hid (∀ i, d.testBit i = (decide (n ≤ i) && a.testBit (i - n))) := Lib.hid (fun i => by rw [hd]; exact bit_shift a n i)
  rw [← hd]
  clear hd
  have R0 := Lib.hid (Rows3.new w 114 (bcells a) 114 (bcells 0) 114 (bcells 0))
  go_enter Tryz.func129, Tryz.ntmps129
  go_wp2_with fail
  generalize (((w.alloc (.cells (bcells a) 114)).alloc (.cells (bcells 0) 114)).alloc (.cells (bcells 0) 114)) = w1 at *
  go_loopw [8] (fun I wr => ∃ i : Nat, I = .int .i64 i ∧ i ≤ 256 ∧ Hid (Rows3 w wr 114 (bcells a) 114 (bcells 0) 114 (bcells (d % 2 ^ i)))) (fun I _ => 256 - (intOf I).toNat)
  case atStart => exact ⟨0, rfl, by omega, Lib.hid (by rw [Nat.pow_zero, Nat.mod_one]; exact R0.out)⟩
  case round =>
    clear R0
    obtain ⟨i, rfl, hi, R⟩ := hrel
    by_cases hlt : i < 256
    · have f0 : (0 : Int) ≤ (i : Int) := by omega
      have f1 : (i : Int) < 256 := by omega
      have hb := HS.out i
      by_cases hni : n ≤ i
      · have g0 : (0 : Int) ≤ (i : Int) - (n : Int) := by omega
        have g1 : (i : Int) - (n : Int) < 256 := by omega
        have ea : ((i : Int) - (n : Int)).toNat = i - n := by omega
        have c0 := R.out.1.cell (bcells_get a (i - n) (by omega))
        have e0 := R.out.2.2.1.cell (bcells_get _ i hlt)
        have e1 := R.out.2.2.1.frozen i
        rw [decide_eq_true hni, Bool.true_and] at hb
        have R' := Lib.hid (R.out.set i (.bool (d.testBit i)) (d := bcells (d % 2 ^ (i + 1))) (bcells_next hlt))
        rw [hb] at R'
        clear hb
        go_wp2
        go_roundw
        case rel => exact ⟨i + 1, by go_num, by omega, R'⟩
        case measure => simp [intOf]; omega
      · have t0 : decide ((i : Int) - (n : Int) ≥ 0) = false := decide_eq_false (by omega)
        have t1 : (i : Int) < (n : Int) := by omega
        rw [decide_eq_false hni, Bool.false_and] at hb
        have R' : Hid (Rows3 w wr 114 (bcells a) 114 (bcells 0) 114 (bcells (d % 2 ^ (i + 1)))) := Lib.hid (by rw [← bcells_skip hb]; exact R.out)
        clear hb
        go_wp2
        go_roundw
        case rel => exact ⟨i + 1, by go_num, by omega, R'⟩
        case measure => simp [intOf]; omega
    · obtain rfl : i = 256 := by omega
      have r3 := R.out.2.2.1
      rw [bcells_mod] at r3
      have r2 := R.out.2.1
      obtain ⟨r2', hB'⟩ := R.out.ret (bcells d)
      have HB' := Lib.hid hB'
      clear hB' R
      go_wp2_with (first | (refine wpList_load_row rfl _ _ rfl _ rfl _ _ _ _ r3 Tryz.underlying114 rfl size_bits ?_) | (refine wpList_store_row rfl _ _ _ rfl _ _ rfl rfl _ _ r2 size_bits rfl (bcells_one _) ?_))
      refine bodyPost_ret (results_cell_row rfl _ _ _ _ _ _ _ rfl r2' Tryz.underlying114 rfl size_bits) (by rfl) ?_
      exact ⟨rfl, HB'.out⟩
set_option maxHeartbeats 1000000 in
set_option maxRecDepth 100000 in
theorem r1prod_any (a k : Nat) (hk : k < 18446744073709551616) (w : World) :
    Calls Tryz.prog 68 #[.agg (bcells a), .int .u64 (k : Nat)] w fun e w' => e = .returned (.agg (bcells (a * k))) ∧ Below w.heap.size w w' := by
  have hz := (zero_of_info info_bits).1
  have hfin : Hid (k % 2 ^ 64 = k) := Lib.hid (Nat.mod_eq_of_lt (by simpa using hk))
  have R0 := Lib.hid (Rows3.new w 114 (bcells a) 114 (bcells 0) 114 (bcells 0))
  go_enter Tryz.func68, Tryz.ntmps68
  go_wp2_with fail
  generalize (((w.alloc (.cells (bcells a) 114)).alloc (.cells (bcells 0) 114)).alloc (.cells (bcells 0) 114)) = w1 at *
  go_loopw [6] (fun I wr => ∃ i : Nat, I = .int .i64 i ∧ i ≤ 64 ∧ Hid (Rows3 w wr 114 (bcells a) 114 (bcells 0) 114 (bcells (a * (k % 2 ^ i))))) (fun I _ => 64 - (intOf I).toNat)
  case atStart => exact ⟨0, rfl, by omega, Lib.hid (by rw [Nat.pow_zero, Nat.mod_one, Nat.mul_zero]; exact R0.out)⟩
  case round =>
    clear R0
    obtain ⟨i, rfl, hi, R⟩ := hrel
    by_cases hlt : i < 64
    · have f0 : (0 : Int) ≤ (i : Int) := by omega
      have f1 : (i : Int) < 64 := by omega
      have hP : Hid (∀ W, Calls Tryz.prog 128 #[.int .i64 (i : Int)] W fun e w' => e = .returned (.int .u64 ((2 ^ i : Nat) : Int)) ∧ W = w') := Lib.hid (fun W => r1power_any i hlt W)
      have p0 : 0 < 2 ^ i := Nat.two_pow_pos i
      have hb : k.testBit i = decide (k / 2 ^ i % 2 = 1) := Nat.testBit_eq_decide_div_mod_eq
      have hst := prod_next a k i
      have HMv : Hid (∀ W, Calls Tryz.prog 129 #[.agg (bcells a), .int .i64 (i : Int), .int .i64 256] W fun e w' => e = .returned (.agg (bcells (a * 2 ^ i))) ∧ Below W.heap.size W w') := Lib.hid (fun W => r1moved_any a i hlt W)
      obtain ⟨p, hp⟩ : ∃ p, p = 2 ^ i := ⟨_, rfl⟩
      have HPe := Lib.hid hp
      rw [← hp] at hP p0 hb
      have tp : ((p : Int) == 0) = false := by simp; omega
      have x0 : (0 : Int) ≤ (k : Int) / (p : Int) := Int.ediv_nonneg (by omega) (by omega)
      have x1 : (k : Int) / (p : Int) ≤ 18446744073709551615 := Int.ediv_le_of_le_mul (by omega) (by have : (18446744073709551615 : Int) ≤ 18446744073709551615 * (p : Int) := by omega
                                                                                                     omega)
      have hb' : (((k : Int) / (p : Int)) % 2 == 1) = k.testBit i := by
        rw [hb, Bool.eq_iff_iff]
        simp only [beq_iff_eq, decide_eq_true_eq]
        have : ((k / p % 2 : Nat) : Int) = (k : Int) / (p : Int) % 2 := by rw [Int.natCast_emod, Int.natCast_ediv]; rfl
        omega
      clear hb hp
      cases hkt : k.testBit i
      · rw [hkt] at hb' hst
        have R' : Hid (Rows3 w wr 114 (bcells a) 114 (bcells 0) 114 (bcells (a * (k % 2 ^ (i + 1))))) := Lib.hid (by
          rw [← bcells_mod (a * (k % 2 ^ (i + 1))), hst, if_neg (by simp), Nat.add_zero, bcells_mod, bcells_mod]; exact R.out)
        clear hkt hst HMv
        go_wp2_with (first | (go_at_call 128; refine (hP.out _).mono ?_; rintro e w9 ⟨rfl, rfl⟩))
        go_roundw
        case rel => exact ⟨i + 1, by go_num, by omega, R'⟩
        case measure => simp [intOf]; omega
      · rw [hkt] at hb' hst
        have HST : Hid (bcells (a * (k % 2 ^ i) + a * 2 ^ i) = bcells (a * (k % 2 ^ (i + 1)))) := Lib.hid (by
          rw [← bcells_mod (a * (k % 2 ^ (i + 1))), hst, if_pos rfl, bcells_mod, ← bcells_mod (a * (k % 2 ^ i) % 2 ^ 256 + _), Nat.mod_add_mod, bcells_mod])
        clear hkt hst
        go_wp2_with (first | (go_at_call 128; refine (hP.out _).mono ?_; rintro e w9 ⟨rfl, rfl⟩))
        obtain ⟨d, hd⟩ : ∃ d, d = a * (k % 2 ^ i) := ⟨_, rfl⟩
        rw [← hd] at HST R
        obtain ⟨m, hm⟩ : ∃ m, m = a * 2 ^ i := ⟨_, rfl⟩
        rw [← hm] at HST HMv
        have HKp : Hid (∀ W W', Rows3 w W 114 (bcells a) 114 (bcells 0) 114 (bcells d) → Below W.heap.size W W' → Rows3 w W' 114 (bcells a) 114 (bcells 0) 114 (bcells d)) := Lib.hid (fun W W' h hB => ⟨h.1.keep hB, h.2.1.keep hB, h.2.2.1.keep hB, h.2.2.2.trans (hB.mono h.2.2.2.size)⟩)
        have HSm : Hid (∀ W, Calls Tryz.prog 73 #[.agg (bcells d), .agg (bcells m)] W fun e w' => e = .returned (.agg (bcells (d + m))) ∧ Below W.heap.size W w') := Lib.hid (fun W => r1sum_any d m W)
        have HR := Lib.hid (Rows3.drewN R.out 1)
        have HRet : Hid (∀ wz, Rows3 w wz 114 (bcells a) 114 (bcells 0) 114 (bcells d) → Rows3 w (wz.setRow (w.heap.size + 1 + 1) (bcells (d + m))) 114 (bcells a) 114 (bcells 0) 114 (bcells (a * (k % 2 ^ (i + 1))))) := Lib.hid (fun wz h => by
          rw [← HST.out]
          exact ⟨h.1.setRowOther _ _ (by omega), h.2.1.setRowOther _ _ (by omega), h.2.2.1.setRow _, below_setRow h.2.2.2 (by omega) _⟩)
        clear hd hm hb' R
        change (Code.region _ _ true).wp _ _ _ _
        refine wp_region_held_drew (S := fun wz => RowAt wz w.heap.size 114 (bcells a)) (by kernel_rfl) (HR.out.1) (fun hHeld => ?_)
        refine wpAnyH_take (i := 1) rfl (by kernel_rfl) (by kernel_rfl) (by kernel_rfl) (fun _ _ _ h => h) (yieldsIf_load_row (by rfl) _ _ rfl _ rfl _ _ _ (fun wz h => h) Tryz.underlying114 rfl size_bits) (by assumption) ?_
        try simp only [Act.put, List.getElem_toArray, List.getElem_cons_zero, List.getElem_cons_succ, List.setIfInBounds_toArray, List.set_cons_zero, List.set_cons_succ]
        refine wpAnyH_take (i := 2) (v := ?_) rfl (by kernel_rfl) (by kernel_rfl) (by kernel_rfl) (fun _ _ _ h => h) (Or.inl ⟨by rfl, ?_⟩) (by assumption) ?_
        rotate_left
        · intro w hSw; go_simp; try with_reducible rfl
        try simp only [Act.put, List.getElem_toArray, List.getElem_cons_zero, List.getElem_cons_succ, List.setIfInBounds_toArray, List.set_cons_zero, List.set_cons_succ]
        refine wpAnyH_ready (rs := [0, 3]) (by kernel_rfl) (by simp) ?_
        refine AllReadyH.cons rfl (fun K hK => ?_) ?_
        · try simp only [List.getElem_toArray, List.getElem_cons_zero, List.getElem_cons_succ]
          rw [if_pos (by rfl)]
          refine wp_load_row _ _ rfl _ rfl _ _ _ _ (HR.out.2.2.1) Tryz.underlying114 rfl size_bits ?_
          refine hK.out _ _ (HR.out.1) (fun _ => ?_)
          clear hK K
          try simp only [Act.put, List.getElem_toArray, List.getElem_cons_zero, List.getElem_cons_succ, List.setIfInBounds_toArray, List.set_cons_zero, List.set_cons_succ]
          refine wpAnyH_ready (rs := [3]) (by kernel_rfl) (by simp) ?_
          refine AllReadyH.cons rfl (fun K hK => ?_) AllReadyH.nil
          try simp only [List.getElem_toArray, List.getElem_cons_zero, List.getElem_cons_succ]
          rw [if_pos (by rfl)]
          go_wp2_with (go_at_call 129; refine (HMv.out _).mono ?_; rintro r w8 ⟨rfl, hB8⟩)
          have zb := Lib.hid (HKp.out _ _ HR.out hB8)
          clear hB8
          refine hK.out _ _ (zb.out.1) (fun _ => ?_)
          clear hK K
          try simp only [Act.put, List.getElem_toArray, List.getElem_cons_zero, List.getElem_cons_succ, List.setIfInBounds_toArray, List.set_cons_zero, List.set_cons_succ]
          refine wpAnyH_ready (rs := [4]) (by kernel_rfl) (by simp) ?_
          refine AllReadyH.cons rfl (fun K hK => ?_) AllReadyH.nil
          try simp only [List.getElem_toArray, List.getElem_cons_zero, List.getElem_cons_succ]
          rw [if_pos (by rfl)]
          go_wp2_with (go_at_call 73; refine (HSm.out _).mono ?_; rintro r w9 ⟨rfl, hB9⟩)
          have zc := Lib.hid (HKp.out _ _ zb.out hB9)
          clear hB9
          refine hK.out _ _ (zc.out.1) (fun _ => ?_)
          clear hK K
          try simp only [Act.put, List.getElem_toArray, List.getElem_cons_zero, List.getElem_cons_succ, List.setIfInBounds_toArray, List.set_cons_zero, List.set_cons_succ]
          refine wpAnyH_ready (rs := [5]) (by kernel_rfl) (by simp) ?_
          refine AllReadyH.cons rfl (fun K hK => ?_) AllReadyH.nil
          try simp only [List.getElem_toArray, List.getElem_cons_zero, List.getElem_cons_succ]
          rw [if_pos (by rfl)]
          refine wp_store_row _ _ _ rfl _ _ rfl rfl _ _ (zc.out.2.2.1) size_bits rfl (bcells_one _) ?_
          refine hK.out _ _ ((HRet.out _ zc.out).1) (fun _ => ?_)
          clear hK K
          try simp only [Act.put, List.getElem_toArray, List.getElem_cons_zero, List.getElem_cons_succ, List.setIfInBounds_toArray, List.set_cons_zero, List.set_cons_succ]
          refine wpAnyH_done (by kernel_rfl) ?_ _
          have HZ := Lib.hid (HRet.out _ zc.out)
          clear zb zc
          go_wp2
          go_roundw
          case rel => exact ⟨i + 1, by go_num, by omega, HZ⟩
          case measure => simp [intOf]; omega
        · refine AllReadyH.cons rfl (fun K hK => ?_) AllReadyH.nil
          try simp only [List.getElem_toArray, List.getElem_cons_zero, List.getElem_cons_succ]
          rw [if_pos (by rfl)]
          go_wp2_with (go_at_call 129; refine (HMv.out _).mono ?_; rintro r w8 ⟨rfl, hB8⟩)
          have zb := Lib.hid (HKp.out _ _ HR.out hB8)
          clear hB8
          refine hK.out _ _ (zb.out.1) (fun _ => ?_)
          clear hK K
          try simp only [Act.put, List.getElem_toArray, List.getElem_cons_zero, List.getElem_cons_succ, List.setIfInBounds_toArray, List.set_cons_zero, List.set_cons_succ]
          refine wpAnyH_ready (rs := [0]) (by kernel_rfl) (by simp) ?_
          refine AllReadyH.cons rfl (fun K hK => ?_) AllReadyH.nil
          try simp only [List.getElem_toArray, List.getElem_cons_zero, List.getElem_cons_succ]
          try simp only [List.getElem_toArray, List.getElem_cons_zero, List.getElem_cons_succ]
          rw [if_pos (by rfl)]
          refine wp_load_row _ _ rfl _ rfl _ _ _ _ (zb.out.2.2.1) Tryz.underlying114 rfl size_bits ?_
          refine hK.out _ _ (zb.out.1) (fun _ => ?_)
          clear hK K
          try simp only [Act.put, List.getElem_toArray, List.getElem_cons_zero, List.getElem_cons_succ, List.setIfInBounds_toArray, List.set_cons_zero, List.set_cons_succ]
          refine wpAnyH_ready (rs := [4]) (by kernel_rfl) (by simp) ?_
          refine AllReadyH.cons rfl (fun K hK => ?_) AllReadyH.nil
          try simp only [List.getElem_toArray, List.getElem_cons_zero, List.getElem_cons_succ]
          rw [if_pos (by rfl)]
          go_wp2_with (go_at_call 73; refine (HSm.out _).mono ?_; rintro r w9 ⟨rfl, hB9⟩)
          have zc := Lib.hid (HKp.out _ _ zb.out hB9)
          clear hB9
          refine hK.out _ _ (zc.out.1) (fun _ => ?_)
          clear hK K
          try simp only [Act.put, List.getElem_toArray, List.getElem_cons_zero, List.getElem_cons_succ, List.setIfInBounds_toArray, List.set_cons_zero, List.set_cons_succ]
          refine wpAnyH_ready (rs := [5]) (by kernel_rfl) (by simp) ?_
          refine AllReadyH.cons rfl (fun K hK => ?_) AllReadyH.nil
          try simp only [List.getElem_toArray, List.getElem_cons_zero, List.getElem_cons_succ]
          rw [if_pos (by rfl)]
          refine wp_store_row _ _ _ rfl _ _ rfl rfl _ _ (zc.out.2.2.1) size_bits rfl (bcells_one _) ?_
          refine hK.out _ _ ((HRet.out _ zc.out).1) (fun _ => ?_)
          clear hK K
          try simp only [Act.put, List.getElem_toArray, List.getElem_cons_zero, List.getElem_cons_succ, List.setIfInBounds_toArray, List.set_cons_zero, List.set_cons_succ]
          refine wpAnyH_done (by kernel_rfl) ?_ _
          have HZ := Lib.hid (HRet.out _ zc.out)
          clear zb zc
          go_wp2
          go_roundw
          case rel => exact ⟨i + 1, by go_num, by omega, HZ⟩
          case measure => simp [intOf]; omega
    · obtain rfl : i = 64 := by omega
      have r3 := R.out.2.2.1
      rw [hfin.out] at r3
      have r2 := R.out.2.1
      obtain ⟨r2', hB'⟩ := R.out.ret (bcells (a * k))
      have HB' := Lib.hid hB'
      clear hB' R
      go_wp2_with (first | (refine wpList_load_row rfl _ _ rfl _ rfl _ _ _ _ r3 Tryz.underlying114 rfl size_bits ?_) | (refine wpList_store_row rfl _ _ _ rfl _ _ rfl rfl _ _ r2 size_bits rfl (bcells_one _) ?_))
      refine bodyPost_ret (results_cell_row rfl _ _ _ _ _ _ _ rfl r2' Tryz.underlying114 rfl size_bits) (by rfl) ?_
      exact ⟨rfl, HB'.out⟩
end Go.Proofs.YtemoginoanhjlaaGreat
end
