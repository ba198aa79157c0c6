/- limbs: halves, signs. -/
import Derived.Test.YtjjfiidgjiekpaaGreatWLimALimBLimC
import Derived.Test.YtjjfiidgjiekpaaGreatQTail
import Derived.Test.YtjjfiidgjiekpaaGreatWAlgNumGarM
import Derived.Test.YtjjfiidgjiekpaaGreatWMontBFopsDft
set_option linter.unusedVariables false
set_option linter.unusedSimpArgs false
set_option linter.unusedSectionVars false
section
/- limbs: halves, signs. -/
namespace Go.Proofs.YtjjfiidgjiekpaaGreat
open Go.RowKit
theorem half_wd (a i : Nat) (hi : i < 3) (ha : a < 6277101735386680763835789423207666416102355444464034512896) : wd (a / 2) i = wd a i / 2 + (if i + 1 < 3 then 9223372036854775808 * (wd a (i + 1) % 2) else 0) := by
  unfold wd
  match i, hi with
  | 0, _ => simp only [Nat.reducePow, Nat.reduceAdd]; simp; omega
  | 1, _ => simp only [Nat.reducePow, Nat.reduceAdd]; simp; omega
  | 2, _ => simp only [Nat.reducePow, Nat.reduceAdd]; simp; omega
theorem set_set (c : Array Value) (i : Nat) (u v : Value) : (c.setIfInBounds i u).setIfInBounds i v = c.setIfInBounds i v := by
  apply Array.ext_getElem?
  intro j
  simp only [Array.getElem?_setIfInBounds, Array.size_setIfInBounds]
  by_cases h : i = j
  · simp [h]
  · simp [h]
set_option maxHeartbeats 1000000 in
set_option maxRecDepth 100000 in
theorem lright_any (a : Nat) (ha : a < 6277101735386680763835789423207666416102355444464034512896) (w : World) :
    Calls Tryz.prog 57 #[.agg (three a), .int .i64 1] w fun e w' => e = .returned (.agg (three (a / 2))) ∧ Below w.heap.size w w' := by
  have hz := (zero_of_info info_three).1
  obtain ⟨d, hd⟩ : ∃ d, d = a / 2 := ⟨_, rfl⟩
  have HW : Hid (∀ i, i < 3 → wd d i = wd a i / 2 + (if i + 1 < 3 then 9223372036854775808 * (wd a (i + 1) % 2) else 0)) := Lib.hid (fun i hi => by rw [hd]; exact half_wd a i hi ha)
  rw [← hd]
  clear hd ha
  have R0 := Lib.hid (Rows3.new w 29 (three a) 29 (three 0) 29 (three 0))
  have mm : max (1 : Int) 0 = 1 := rfl
  have mn : min (1 : Int) 192 = 1 := rfl
  have q0 : (1 : Int) / 64 = 0 := rfl
  have q1 : (1 : Int) % 64 = 1 := rfl
  go_enter Tryz.func57, Tryz.ntmps57
  go_wp2_with fail
  generalize (((w.alloc (.cells (three a) 29)).alloc (.cells (three 0) 29)).alloc (.cells (three 0) 29)) = w1 at *
  go_loopw [8] (fun I wr => ∃ i : Nat, I = .int .i64 i ∧ i ≤ 3 ∧ Hid (Rows3 w wr 29 (three a) 29 (three 0) 29 (three (d % 18446744073709551616 ^ i)))) (fun I _ => 3 - (intOf I).toNat)
  case atStart => exact ⟨0, rfl, by omega, Lib.hid (by rw [Nat.pow_zero, Nat.mod_one]; exact R0.out)⟩
  case round =>
    clear R0
    obtain ⟨i, rfl, hi, R⟩ := hrel
    by_cases hlt : i < 3
    · have c0 := R.out.1.cell (three_get a i hlt)
      have b0 := wd_lt a i
      have e0 := R.out.2.2.1.cell (three_get _ i hlt)
      have e1 := R.out.2.2.1.frozen i
      have hw := HW.out i hlt
      have f0 : (0 : Int) ≤ (i : Int) := by omega
      have f1 : (i : Int) < 3 := by omega
      have hst := three_next (n := d) hlt
      obtain ⟨z, hz'⟩ : ∃ z, z = wd d i := ⟨_, rfl⟩
      rw [← hz'] at hst hw
      obtain ⟨x, hx⟩ : ∃ x, x = wd a i := ⟨_, rfl⟩
      rw [← hx] at hw c0 b0
      have R1 := R.out.set i (.int .u64 ((x : Int) / 2)) rfl
      by_cases h2 : i + 1 < 3
      · have t2 : decide ((i : Int) + 1 < 3) = true := decide_eq_true (by omega)
        rw [if_pos h2] at hw
        have c1 := R1.1.cell (three_get a (i + 1) h2)
        have b1 := wd_lt a (i + 1)
        obtain ⟨y, hy⟩ : ∃ y, y = wd a (i + 1) := ⟨_, rfl⟩
        rw [← hy] at hw c1 b1
        have k0 : (wr.setCell ⟨w.heap.size + 1 + 1, i, none⟩ (.int .u64 ((x : Int) / 2))).cell? ⟨w.heap.size + 1 + 1, i, none⟩ = some (.int .u64 ((x : Int) / 2)) := R1.2.2.1.cell (by rw [Array.getElem?_setIfInBounds, if_pos rfl, if_pos (by rw [three_size]; exact hlt)])
        have k1 := R1.2.2.1.frozen i
        have c2 : wr.cell? ⟨w.heap.size, i + 1, none⟩ = some (.int .u64 (y : Nat)) := by rw [hy]; exact R.out.1.cell (three_get a (i + 1) h2)
        have R2 := R1.set i (.int .u64 (z : Nat)) (d := three (d % 18446744073709551616 ^ (i + 1))) (by rw [set_set]; exact hst)
        have hor : bits .or .u64 ((x : Int) / 2) (IntKind.u64.wrap ((y : Int) * 9223372036854775808)) = (z : Int) := by
          rw [IntKind.wrap_u64, Int.mul_comm]
          have hh := or_join' (9223372036854775808 * (y : Int) % 18446744073709551616) ((x : Int) / 2) 63 (by omega) (by omega) (by omega) (by omega) (by omega) (by omega)
          rw [hh]; omega
        have HST := Lib.hid hst
        have HR1 := Lib.hid R1
        clear hw hst hz' hx hy b1 R1 R2
        go_wp2_with fail
        refine wp_region_qtail 13 (by kernel_rfl) (by kernel_rfl) ?_
        simp only [List.take_succ_cons, List.take_zero, List.drop_succ_cons, List.drop_zero]
        repeat (go_big_quiet_step (fail))
        refine wpQuiet_nil ?_
        intro _ hw'
        obtain ⟨nq, hw''⟩ := hw'
        subst hw''
        have k0' := (HR1.out.drewN nq).2.2.1.cell (i := i) (v := .int .u64 ((x : Int) / 2)) (by rw [Array.getElem?_setIfInBounds, if_pos rfl, if_pos (by rw [three_size]; exact hlt)])
        have k1' := (HR1.out.drewN nq).2.2.1.frozen i
        have R3 := Lib.hid ((HR1.out.drewN nq).set i (.int .u64 (z : Nat)) (d := three (d % 18446744073709551616 ^ (i + 1))) (by rw [set_set]; exact HST.out))
        clear c0 c1 c2 e0 e1 k0 k1 HR1
        go_wp2
        go_roundw
        case rel => exact ⟨i + 1, by go_num, by omega, R3⟩
        case measure => simp [intOf]; omega
      · have t2 : decide ((i : Int) + 1 < 3) = false := decide_eq_false (by omega)
        rw [if_neg h2] at hw
        have e2 : (x : Int) / 2 = (z : Int) := by omega
        rw [e2] at R1
        have R2 : Hid (Rows3 w (wr.setCell ⟨w.heap.size + 1 + 1, i, none⟩ (.int .u64 (z : Nat))) 29 (three a) 29 (three 0) 29 (three (d % 18446744073709551616 ^ (i + 1)))) := Lib.hid (hst ▸ R1)
        clear R1 hst hz' hx hw
        go_wp2
        go_roundw
        case rel => exact ⟨i + 1, by go_num, by omega, R2⟩
        case measure => simp [intOf]; omega
    · obtain rfl : i = 3 := by omega
      have r3 := R.out.2.2.1
      rw [show (18446744073709551616 : Nat) ^ 3 = 6277101735386680763835789423207666416102355444464034512896 by rfl, three_mod] at r3
      have r2 := R.out.2.1
      obtain ⟨r2', hB'⟩ := R.out.ret (three d)
      have HB' := Lib.hid hB'
      clear hB' R
      go_wp2_with (first | (refine wpList_load_row rfl _ _ rfl _ rfl _ _ _ _ r3 Tryz.underlying29 rfl size_three ?_) | (refine wpList_store_row rfl _ _ _ rfl _ _ rfl rfl _ _ r2 size_three rfl (three_one _) ?_))
      refine bodyPost_ret (results_cell_row rfl _ _ _ _ _ _ _ rfl r2' Tryz.underlying29 rfl size_three) (by rfl) ?_
      exact ⟨rfl, HB'.out⟩
set_option maxHeartbeats 1000000 in
set_option maxRecDepth 100000 in
theorem lof_any (n : Int) (h0 : -9223372036854775808 ≤ n) (h1 : n ≤ 9223372036854775807) (w : World) :
    Calls Tryz.prog 22 #[.int .i64 n] w fun e w' => e = .returned (.agg (three ((n % 6277101735386680763835789423207666416102355444464034512896).toNat))) ∧ Below w.heap.size w w' := by
  have hz := (zero_of_info info_three).1
  obtain ⟨R0, hB0⟩ := lay1 w 29 (three 0)
  obtain ⟨D, hD⟩ : ∃ D, D = (n % 6277101735386680763835789423207666416102355444464034512896).toNat := ⟨_, rfl⟩
  have HQ : Hid (three D = #[.int .u64 (IntKind.u64.wrap n), .int .u64 (IntKind.u64.wrap (n / 9223372036854775808)), .int .u64 (IntKind.u64.wrap (n / 9223372036854775808))]) := Lib.hid (by
    unfold three
    rw [IntKind.wrap_u64, IntKind.wrap_u64]
    have hD' : (D : Int) = n % 6277101735386680763835789423207666416102355444464034512896 := by rw [hD]; exact Int.toNat_of_nonneg (Int.emod_nonneg _ (by decide))
    have hq : (0 ≤ n ∧ n / 9223372036854775808 = 0) ∨ (n < 0 ∧ n / 9223372036854775808 = -1) := by omega
    clear hD
    have a1 : ((D % 18446744073709551616 : Nat) : Int) = n % 18446744073709551616 := by omega
    have a2 : ((D / 18446744073709551616 % 18446744073709551616 : Nat) : Int) = n / 9223372036854775808 % 18446744073709551616 := by rcases hq with ⟨h, e⟩ | ⟨h, e⟩ <;> rw [e] <;> omega
    have a3 : ((D / 340282366920938463463374607431768211456 % 18446744073709551616 : Nat) : Int) = n / 9223372036854775808 % 18446744073709551616 := by rcases hq with ⟨h, e⟩ | ⟨h, e⟩ <;> rw [e] <;> omega
    rw [a1, a2, a3])
  rw [← hD]
  have r2' := R0.setRow (three D)
  have HB' := Lib.hid (below_setRow hB0 (Nat.le_refl _) (three D))
  clear hD hB0
  go_enter Tryz.func22, Tryz.ntmps22
  go_wp2_with (refine wpList_store_row rfl _ _ _ rfl w.heap.size (three D) rfl (by rw [HQ.out]; rfl) _ _ R0 size_three rfl (three_one _) ?_)
  refine bodyPost_ret (results_cell_row rfl _ _ _ _ _ _ _ rfl r2' Tryz.underlying29 rfl size_three) (by rfl) ?_
  exact ⟨rfl, HB'.out⟩
end Go.Proofs.YtjjfiidgjiekpaaGreat
end

section
/- garner: a trio in memory; plus, Field, Product, Primes, Split. -/
namespace Go.Proofs.YtjjfiidgjiekpaaGreat
open Go.RowKit
open Alg (Prime)
theorem info_w3 : (Tryz.prog.info? 28).map (fun i => (i.zero, i.size)) = some (some (.agg (three 0)), 3) := by kernel_rfl
theorem size_w3 : (Tryz.prog.info? 28).map (·.size) = some 3 := by kernel_rfl
def tl (n : Nat) : List Value := [.int .u64 ((n % 18446744073709551616 : Nat) : Int), .int .u64 ((n / 18446744073709551616 % 18446744073709551616 : Nat) : Int), .int .u64 ((n / 340282366920938463463374607431768211456 % 18446744073709551616 : Nat) : Int)]
theorem three_tl (n : Nat) : three n = (tl n).toArray := rfl
/-- A trio's cells. -/
def trow (va vb vc : Value) (s t x y : Nat) : Array Value :=
  #[va, vb, vc, .int .u64 (s : Int), .int .u64 (t : Int), .int .u64 ((x % 18446744073709551616 : Nat) : Int), .int .u64 ((x / 18446744073709551616 % 18446744073709551616 : Nat) : Int), .int .u64 ((x / 340282366920938463463374607431768211456 % 18446744073709551616 : Nat) : Int),
    .int .u64 ((y % 18446744073709551616 : Nat) : Int), .int .u64 ((y / 18446744073709551616 % 18446744073709551616 : Nat) : Int), .int .u64 ((y / 340282366920938463463374607431768211456 % 18446744073709551616 : Nat) : Int)]
theorem RowAt.two {w : World} {G : Nat} {t : TypeId} {va vb vc : Value} {s u x y : Nat} (h : RowAt w G t (trow va vb vc s u x y)) : w.rangeAt G 5 (tl x) := fun j v hv => by
  match j, hv with
  | 0, hv => simp [tl] at hv; subst hv; exact h.cell rfl
  | 1, hv => simp [tl] at hv; subst hv; exact h.cell rfl
  | 2, hv => simp [tl] at hv; subst hv; exact h.cell rfl
theorem RowAt.prod {w : World} {G : Nat} {t : TypeId} {va vb vc : Value} {s u x y : Nat} (h : RowAt w G t (trow va vb vc s u x y)) : w.rangeAt G 8 (tl y) := fun j v hv => by
  match j, hv with
  | 0, hv => simp [tl] at hv; subst hv; exact h.cell rfl
  | 1, hv => simp [tl] at hv; subst hv; exact h.cell rfl
  | 2, hv => simp [tl] at hv; subst hv; exact h.cell rfl
/-- Three unlike primes. -/
structure Tri (p q r : Nat) : Prop where
  hp : Prime p
  hq : Prime q
  hr : Prime r
  pq : p ≠ q
  pr : p ≠ r
  qr : q ≠ r
  p3 : 3 ≤ p
  q3 : 3 ≤ q
  r3 : 3 ≤ r
  pm : p < 9223372036854775808
  qm : q < 9223372036854775808
  rm : r < 9223372036854775808
/-- A trio in memory. -/
def TrioP (w : World) (B : Nat) (v : Value) (p q r : Nat) : Prop := ∃ (G : Nat) (va vb vc : Value) (s t : Nat) (g1 g2 g3 : Int), v = .pointer (some ⟨G, 0, none⟩) ∧ G < B ∧ Fd w B va p g1 ∧ Fd w B vb q g2 ∧ Fd w B vc r g3 ∧
  RowAt w G 99 (trow va vb vc s t (p * q) (p * q * r)) ∧ s < q ∧ t < r ∧ ((s : Int) * p) % q = 1 % (q : Int) ∧ ((t : Int) * (p * q)) % r = 1 % (r : Int)
theorem TrioP.below {w w' : World} {B : Nat} {v : Value} {p q r : Nat} (h : TrioP w B v p q r) (hb : Below B w w') : TrioP w' B v p q r := by
  obtain ⟨G, va, vb, vc, s, t, g1, g2, g3, rfl, hG, ha, hbb, hc, hr, h1⟩ := h
  exact ⟨G, va, vb, vc, s, t, g1, g2, g3, rfl, hG, ha.below hb, hbb.below hb, hc.below hb, hr.below hb hG, h1⟩
theorem TrioP.mono {w : World} {B B' : Nat} {v : Value} {p q r : Nat} (h : TrioP w B v p q r) (hb : B ≤ B') : TrioP w B' v p q r := by
  obtain ⟨G, va, vb, vc, s, t, g1, g2, g3, rfl, hG, ha, hbb, hc, hr, h1⟩ := h
  exact ⟨G, va, vb, vc, s, t, g1, g2, g3, rfl, by omega, ha.mono hb, hbb.mono hb, hc.mono hb, hr, h1⟩
/-- The field that it has at a place. -/
theorem TrioP.fd {w : World} {B : Nat} {v : Value} {p q r : Nat} (h : TrioP w B v p q r) (i : Nat) (hi : i < 3) :
    ∃ (G : Nat) (vi : Value) (gi : Int), v = .pointer (some ⟨G, 0, none⟩) ∧ w.cell? ⟨G, i, none⟩ = some vi ∧ Fd w B vi ((if i = 0 then p else if i = 1 then q else r : Nat) : Int) gi := by
  obtain ⟨G, va, vb, vc, s, t, g1, g2, g3, rfl, hG, ha, hbb, hc, hr, h1⟩ := h
  match i, hi with
  | 0, _ => exact ⟨G, va, g1, rfl, hr.cell rfl, ha⟩
  | 1, _ => exact ⟨G, vb, g2, rfl, hr.cell rfl, hbb⟩
  | 2, _ => exact ⟨G, vc, g3, rfl, hr.cell rfl, hc⟩
def pk (p q r i : Nat) : Nat := if i = 0 then p else if i = 1 then q else r
set_option maxHeartbeats 1000000 in
set_option maxRecDepth 100000 in
theorem tfield_yes {w : World} {B : Nat} {v : Value} {p q r : Nat} (h : TrioP w B v p q r) (i : Nat) (hi : i < 3) :
    Calls Tryz.prog 23 #[v, .int .i64 (i : Int)] w fun e w' => (∃ vi gi, e = .returned vi ∧ Fd w B vi ((pk p q r i : Nat) : Int) gi) ∧ w = w' := by
  obtain ⟨G, vi, gi, rfl, hc, hF⟩ := h.fd i hi
  have HF := Lib.hid hF
  have f0 : (0 : Int) ≤ (i : Int) := by omega
  have f1 : (i : Int) < 3 := by omega
  have t0 : decide ((i : Int) < 0) = false := decide_eq_false (by omega)
  have t1 : decide ((i : Int) > 2) = false := decide_eq_false (by omega)
  clear h hF
  go_enter Tryz.func23, Tryz.ntmps23
  go_wp2
  go_ret
  exact ⟨⟨vi, gi, rfl, HF.out⟩, rfl⟩
set_option maxHeartbeats 1000000 in
set_option maxRecDepth 100000 in
theorem tfield_no {w : World} {B : Nat} {v : Value} {p q r : Nat} (h : TrioP w B v p q r) (i : Int) (hi : i < 0 ∨ 2 < i) (h0 : -9223372036854775808 ≤ i) (h1 : i ≤ 9223372036854775807) :
    Calls Tryz.prog 23 #[v, .int .i64 i] w fun e w' => e = .returned (.pointer none) ∧ w = w' := by
  obtain ⟨G, vi, gi, rfl, hc, hF⟩ := h.fd 0 (by omega)
  clear h hF hc
  rcases hi with hi | hi
  · have t0 : decide (i < 0) = true := decide_eq_true hi
    go_enter Tryz.func23, Tryz.ntmps23
    go_wp2
    go_ret
    exact ⟨rfl, rfl⟩
  · have t0 : decide (i < 0) = false := decide_eq_false (by omega)
    have t1 : decide (i > 2) = true := decide_eq_true (by omega)
    go_enter Tryz.func23, Tryz.ntmps23
    go_wp2
    go_ret
    exact ⟨rfl, rfl⟩
theorem tfield_nil (i : Int) (w : World) : Calls Tryz.prog 23 #[.pointer none, .int .i64 i] w fun e w' => e = .returned (.pointer none) ∧ w = w' := by
  go_enter Tryz.func23, Tryz.ntmps23
  go_wp2
  go_ret
  exact ⟨rfl, rfl⟩
set_option maxHeartbeats 1000000 in
set_option maxRecDepth 100000 in
theorem tprod_yes {w : World} {B : Nat} {v : Value} {p q r : Nat} (h : TrioP w B v p q r) (hB0 : B ≤ w.heap.size) :
    Calls Tryz.prog 25 #[v] w fun e w' => e = .returned (.agg (three (p * q * r))) ∧ Below w.heap.size w w' := by
  have hz := (zero_of_info info_three).1
  obtain ⟨G, va, vb, vc, s, t, g1, g2, g3, rfl, hG, ha, hbb, hc, hr, h1⟩ := h
  obtain ⟨n, hn⟩ : ∃ n, n = p * q * r := ⟨_, rfl⟩
  rw [← hn] at hr ⊢
  obtain ⟨r0, hB⟩ := lay1 w 29 (three 0)
  have hr1 := (hr.alloc (.cells (three 0) 29)).prod
  have HR1 := Lib.hid hr1
  have HR0 := Lib.hid r0
  have HB := Lib.hid hB
  clear hn ha hbb hc hr h1 r0 hB hr1
  go_enter Tryz.func25, Tryz.ntmps25
  go_wp2_with (first | (refine wpList_load_mid rfl _ _ rfl _ _ rfl _ _ (HR1.out) Tryz.underlying29 rfl (by exact size_three) ?_) | (refine wpList_store_row rfl _ _ _ rfl _ _ rfl rfl _ _ (HR0.out) size_three rfl (three_one _) ?_))
  refine bodyPost_ret (results_cell_row rfl _ _ _ _ _ _ _ rfl (HR0.out.setRow _) Tryz.underlying29 rfl size_three) (by rfl) ?_
  exact ⟨rfl, below_setRow HB.out (Nat.le_refl _) _⟩
theorem tprod_nil (w : World) : Calls Tryz.prog 25 #[.pointer none] w fun e w' => e = .returned (.agg (three 0)) ∧ Below w.heap.size w w' := by
  have hz := (zero_of_info info_three).1
  obtain ⟨r0, hB⟩ := lay1 w 29 (three 0)
  have HR0 := Lib.hid r0
  have HB := Lib.hid hB
  clear r0 hB
  go_enter Tryz.func25, Tryz.ntmps25
  go_wp2_with (refine wpList_store_row rfl _ _ _ rfl _ _ rfl rfl _ _ (HR0.out) size_three rfl (three_one _) ?_)
  refine bodyPost_ret (results_cell_row rfl _ _ _ _ _ _ _ rfl (HR0.out.setRow _) Tryz.underlying29 rfl size_three) (by rfl) ?_
  exact ⟨rfl, below_setRow HB.out (Nat.le_refl _) _⟩
/-- Three words side by side. -/
def w3n (a b c : Nat) : Nat := a + 18446744073709551616 * b + 340282366920938463463374607431768211456 * c
theorem wd_w3n {a b c : Nat} (ha : a < 18446744073709551616) (hb : b < 18446744073709551616) (hc : c < 18446744073709551616) (i : Nat) (hi : i < 3) : wd (w3n a b c) i = pk a b c i := by
  unfold wd w3n pk
  match i, hi with
  | 0, _ => simp only [Nat.pow_zero, Nat.div_one, if_pos]; omega
  | 1, _ => simp only [Nat.pow_one]; simp; omega
  | 2, _ => simp only [Nat.reducePow]; simp; omega
theorem w3n_mod {a b c : Nat} (ha : a < 18446744073709551616) (hb : b < 18446744073709551616) (hc : c < 18446744073709551616) : w3n a b c % 18446744073709551616 ^ 3 = w3n a b c := by
  unfold w3n
  simp only [Nat.reducePow]; omega
theorem three_w3n {a b c : Nat} (ha : a < 18446744073709551616) (hb : b < 18446744073709551616) (hc : c < 18446744073709551616) : three (w3n a b c) = #[.int .u64 (a : Int), .int .u64 (b : Int), .int .u64 (c : Int)] := three_words ha hb hc
set_option maxHeartbeats 1000000 in
set_option maxRecDepth 100000 in
theorem tprimes_yes {w : World} {v : Value} {p q r : Nat} (h : TrioP w w.heap.size v p q r) (hT : Tri p q r) :
    Calls Tryz.prog 24 #[v] w fun e w' => e = .returned (.agg (three (w3n p q r))) ∧ Below w.heap.size w w' := by
  have hz := (zero_of_info info_w3).1
  have pm := hT.pm
  have qm := hT.qm
  have rm := hT.rm
  have HW : Hid (∀ i, i < 3 → wd (w3n p q r) i = pk p q r i) := Lib.hid (fun i hi => wd_w3n (by omega) (by omega) (by omega) i hi)
  have HM : Hid (w3n p q r % 18446744073709551616 ^ 3 = w3n p q r) := Lib.hid (w3n_mod (by omega) (by omega) (by omega))
  obtain ⟨n, hn⟩ : ∃ n, n = w3n p q r := ⟨_, rfl⟩
  rw [← hn] at HW HM ⊢
  have HT := Lib.hid h
  have R0 := Lib.hid (Rows2.new w 28 (three 0) 28 (three 0))
  clear hn pm qm rm h
  go_enter Tryz.func24, Tryz.ntmps24
  go_wp2_with fail
  generalize ((w.alloc (.cells (three 0) 28)).alloc (.cells (three 0) 28)) = w1 at *
  go_loopw [5] (fun I wr => ∃ i : Nat, I = .int .i64 i ∧ i ≤ 3 ∧ Hid (Rows2 w wr 28 (three 0) 28 (three (n % 18446744073709551616 ^ i)))) (fun I _ => 3 - (intOf I).toNat)
  case atStart => exact ⟨0, rfl, by omega, Lib.hid (by rw [Nat.pow_zero, Nat.mod_one]; exact R0.out)⟩
  case round =>
    clear R0
    obtain ⟨i, rfl, hi, R⟩ := hrel
    by_cases hlt : i < 3
    · have e0 := R.out.2.1.cell (three_get _ i hlt)
      have e1 := R.out.2.1.frozen i
      have f0 : (0 : Int) ≤ (i : Int) := by omega
      have f1 : (i : Int) < 3 := by omega
      have hst := three_next (n := n) hlt
      rw [HW.out i hlt] at hst
      have hTr := (HT.out.below R.out.2.2).mono R.out.2.2.size
      have HF := Lib.hid (tfield_yes hTr i hlt)
      have R' : Hid (Rows2 w (wr.setCell ⟨w.heap.size + 1, i, none⟩ (.int .u64 ((pk p q r i : Nat) : Int))) 28 (three 0) 28 (three (n % 18446744073709551616 ^ (i + 1)))) := Lib.hid ⟨R.out.1.setOther _ _ (by show w.heap.size ≠ w.heap.size + 1; omega), hst ▸ R.out.2.1.set i _, below_setCell R.out.2.2 (by omega) i _⟩
      clear hst hTr
      go_wp2_with (go_at_call 23; refine HF.out.mono ?_; rintro e w7 ⟨⟨vi, gi, rfl, hFd⟩, rfl⟩; have HFd := Lib.hid hFd; clear hFd)
      refine (fP_fd HFd.out).mono ?_
      rintro e w8 ⟨rfl, rfl⟩
      go_wp2
      go_roundw
      case rel => exact ⟨i + 1, by go_num, by omega, R'⟩
      case measure => simp [intOf]; omega
    · obtain rfl : i = 3 := by omega
      have r3 := R.out.2.1
      rw [HM.out] at r3
      have r2 := R.out.1
      have HB' := Lib.hid (below_setRow R.out.2.2 (Nat.le_refl _) (three n))
      clear R
      go_wp2_with (first | (refine wpList_load_row rfl _ _ rfl _ rfl _ _ _ _ (r3) Tryz.underlying28 rfl size_w3 ?_) | (refine wpList_store_row rfl _ _ _ rfl _ _ rfl rfl _ _ (r2) size_w3 rfl (three_one _) ?_))
      refine bodyPost_ret (results_cell_row rfl _ _ _ _ _ _ _ rfl (r2.setRow _) Tryz.underlying28 rfl size_w3) (by rfl) ?_
      exact ⟨rfl, HB'.out⟩
set_option maxHeartbeats 1000000 in
set_option maxRecDepth 100000 in
theorem tprimes_nil (w : World) : Calls Tryz.prog 24 #[.pointer none] w fun e w' => e = .returned (.agg (three 0)) ∧ Below w.heap.size w w' := by
  have hz := (zero_of_info info_w3).1
  have R0 := Lib.hid (Rows2.new w 28 (three 0) 28 (three 0))
  go_enter Tryz.func24, Tryz.ntmps24
  go_wp2_with fail
  generalize ((w.alloc (.cells (three 0) 28)).alloc (.cells (three 0) 28)) = w1 at *
  go_loopw [5] (fun I wr => ∃ i : Nat, I = .int .i64 i ∧ i ≤ 3 ∧ Hid (Rows2 w wr 28 (three 0) 28 (three 0))) (fun I _ => 3 - (intOf I).toNat)
  case atStart => exact ⟨0, rfl, by omega, R0⟩
  case round =>
    clear R0
    obtain ⟨i, rfl, hi, R⟩ := hrel
    by_cases hlt : i < 3
    · have e0 := R.out.2.1.cell (three_get _ i hlt)
      have e1 := R.out.2.1.frozen i
      have f0 : (0 : Int) ≤ (i : Int) := by omega
      have f1 : (i : Int) < 3 := by omega
      have hst := three_next (n := 0) hlt
      have hw : wd 0 i = 0 := by unfold wd; simp
      rw [hw, Nat.zero_mod, Nat.zero_mod] at hst
      have R' : Hid (Rows2 w (wr.setCell ⟨w.heap.size + 1, i, none⟩ (.int .u64 0)) 28 (three 0) 28 (three 0)) := Lib.hid ⟨R.out.1.setOther _ _ (by show w.heap.size ≠ w.heap.size + 1; omega), by have h := R.out.2.1.set i (.int .u64 ((0 : Nat) : Int)); rw [hst] at h; exact h, below_setCell R.out.2.2 (by omega) i _⟩
      clear hst hw
      go_wp2_with (first | (go_at_call 23; refine (tfield_nil _ _).mono ?_; rintro e w7 ⟨rfl, rfl⟩) | (go_at_call 27; refine (fP_nil _).mono ?_; rintro e w8 ⟨rfl, rfl⟩))
      go_roundw
      case rel => exact ⟨i + 1, by go_num, by omega, R'⟩
      case measure => simp [intOf]; omega
    · obtain rfl : i = 3 := by omega
      have r3 := R.out.2.1
      have r2 := R.out.1
      have HB' := Lib.hid (below_setRow R.out.2.2 (Nat.le_refl _) (three 0))
      clear R
      go_wp2_with (first | (refine wpList_load_row rfl _ _ rfl _ rfl _ _ _ _ (r3) Tryz.underlying28 rfl size_w3 ?_) | (refine wpList_store_row rfl _ _ _ rfl _ _ rfl rfl _ _ (r2) size_w3 rfl (three_one _) ?_))
      refine bodyPost_ret (results_cell_row rfl _ _ _ _ _ _ _ rfl (r2.setRow _) Tryz.underlying28 rfl size_w3) (by rfl) ?_
      exact ⟨rfl, HB'.out⟩
set_option maxHeartbeats 1000000 in
set_option maxRecDepth 100000 in
theorem tsplit_yes {w : World} {v : Value} {p q r : Nat} (h : TrioP w w.heap.size v p q r) (hT : Tri p q r) (x : Nat) (hx : x < 6277101735386680763835789423207666416102355444464034512896) :
    Calls Tryz.prog 26 #[v, .agg (three x)] w fun e w' => e = .returned (.agg (three (w3n (x % p) (x % q) (x % r)))) ∧ Below w.heap.size w w' := by
  have hz := (zero_of_info info_w3).1
  have pm := hT.pm
  have qm := hT.qm
  have rm := hT.rm
  have p3 := hT.p3
  have q3 := hT.q3
  have r3 := hT.r3
  have l1 := Nat.mod_lt x (show 0 < p by omega)
  have l2 := Nat.mod_lt x (show 0 < q by omega)
  have l3 := Nat.mod_lt x (show 0 < r by omega)
  have HP : Hid (∀ i, i < 3 → pk (x % p) (x % q) (x % r) i = x % pk p q r i ∧ pk p q r i ≠ 0) := Lib.hid (fun i hi => by
    unfold pk
    match i, hi with
    | 0, _ => simp; omega
    | 1, _ => simp; omega
    | 2, _ => simp; omega)
  have HXm : Hid (x % 6277101735386680763835789423207666416102355444464034512896 = x) := Lib.hid (Nat.mod_eq_of_lt hx)
  have HM : Hid (∀ i, i < 3 → wd (w3n p q r) i = pk p q r i) := Lib.hid (fun i hi => wd_w3n (by omega) (by omega) (by omega) i hi)
  have HN : Hid (∀ i, i < 3 → wd (w3n (x % p) (x % q) (x % r)) i = pk (x % p) (x % q) (x % r) i) := Lib.hid (fun i hi => wd_w3n (by omega) (by omega) (by omega) i hi)
  have HE : Hid (w3n (x % p) (x % q) (x % r) % 18446744073709551616 ^ 3 = w3n (x % p) (x % q) (x % r)) := Lib.hid (w3n_mod (by omega) (by omega) (by omega))
  have HPr : Hid (∀ W, Below w.heap.size w W → Calls Tryz.prog 24 #[v] W fun e w' => e = .returned (.agg (three (w3n p q r))) ∧ Below W.heap.size W w') := Lib.hid (fun W hW => tprimes_yes ((h.below hW).mono hW.size) hT)
  obtain ⟨m, hm⟩ : ∃ m, m = w3n p q r := ⟨_, rfl⟩
  obtain ⟨n, hn⟩ : ∃ n, n = w3n (x % p) (x % q) (x % r) := ⟨_, rfl⟩
  rw [← hm] at HM HPr
  rw [← hn] at HN HE ⊢
  clear hm hn pm qm rm p3 q3 r3 l1 l2 l3 h hT hx
  have R0 := Lib.hid (Rows3.new w 29 (three x) 28 (three 0) 28 (three 0))
  go_enter Tryz.func26, Tryz.ntmps26
  go_wp2_with fail
  generalize (((w.alloc (.cells (three x) 29)).alloc (.cells (three 0) 28)).alloc (.cells (three 0) 28)) = w1 at *
  refine (HPr.out _ R0.out.2.2.2).mono ?_
  rintro e w2 ⟨rfl, hB2⟩
  have R1 : Hid (Rows3 w w2 29 (three x) 28 (three 0) 28 (three 0)) := Lib.hid ⟨R0.out.1.keep hB2, R0.out.2.1.keep hB2, R0.out.2.2.1.keep hB2, R0.out.2.2.2.trans (hB2.mono R0.out.2.2.2.size)⟩
  clear R0 hB2
  go_wp2_with fail
  go_loopw [10] (fun I wr => ∃ i : Nat, I = .int .i64 i ∧ i ≤ 3 ∧ Hid (Rows3 w wr 29 (three x) 28 (three 0) 28 (three (n % 18446744073709551616 ^ i)))) (fun I _ => 3 - (intOf I).toNat)
  case atStart => exact ⟨0, rfl, by omega, Lib.hid (by rw [Nat.pow_zero, Nat.mod_one]; exact R1.out)⟩
  case round =>
    clear R1
    obtain ⟨i, rfl, hi, R⟩ := hrel
    by_cases hlt : i < 3
    · have f0 : (0 : Int) ≤ (i : Int) := by omega
      have f1 : (i : Int) < 3 := by omega
      have hix : ∀ W, (Instr.index 28 (.agg (three m)) (.int .i64 (i : Int))).run Tryz.prog W = .ok (.int .u64 (wd m i : Nat)) W := fun W => run_index_row _ _ _ _ _ _ _ Tryz.underlying28 rfl Tryz.underlying22 (by kernel_rfl) hlt (three_get m i hlt) W
      have HL : Hid (∀ W, Calls Tryz.prog 65 #[.agg (three x), .int .u64 ((wd m i : Nat) : Int)] W fun e w' => e = .returned (.int .u64 ((wd n i : Nat) : Int)) ∧ Below W.heap.size W w') := Lib.hid (fun W => by
        have h := lrest_any x (wd m i) (wd_lt m i) W
        rw [HM.out i hlt] at h ⊢
        rw [HN.out i hlt]
        rw [if_neg (HP.out i hlt).2, HXm.out] at h
        rw [(HP.out i hlt).1]
        exact h)
      have hst := three_next (n := n) hlt
      have HSt : Hid (∀ W, Rows3 w W 29 (three x) 28 (three 0) 28 (three (n % 18446744073709551616 ^ i)) → Rows3 w (W.setCell ⟨w.heap.size + 1 + 1, i, none⟩ (.int .u64 ((wd n i : Nat) : Int))) 29 (three x) 28 (three 0) 28 (three (n % 18446744073709551616 ^ (i + 1)))) := Lib.hid (fun W h => h.set i _ hst)
      have HCe : Hid (∀ W, Rows3 w W 29 (three x) 28 (three 0) 28 (three (n % 18446744073709551616 ^ i)) → W.cell? ⟨w.heap.size + 1 + 1, i, none⟩ = some (.int .u64 ((wd (n % 18446744073709551616 ^ i) i : Nat) : Int)) ∧ W.frozen? ⟨w.heap.size + 1 + 1, i, none⟩ = false) := Lib.hid (fun W h => ⟨h.2.2.1.cell (three_get _ i hlt), h.2.2.1.frozen i⟩)
      have r0 := R.out.1
      clear hst
      go_wp2_with (first | (refine wpList_load_row rfl _ _ rfl _ rfl _ _ _ _ (r0) Tryz.underlying29 rfl size_three ?_) | (go_at_call 65; refine (HL.out _).mono ?_; rintro e w7 ⟨rfl, hB7⟩; have R7 : Hid (Rows3 w w7 29 (three x) 28 (three 0) 28 (three (n % 18446744073709551616 ^ i))) := Lib.hid ⟨R.out.1.keep hB7, R.out.2.1.keep hB7, R.out.2.2.1.keep hB7, R.out.2.2.2.trans (hB7.mono R.out.2.2.2.size)⟩; obtain ⟨e0, e1⟩ := HCe.out _ R7.out; have R8 := Lib.hid (HSt.out _ R7.out); clear hB7 r0))
      go_roundw
      case rel => exact ⟨i + 1, by go_num, by omega, R8⟩
      case measure => simp [intOf]; omega
    · obtain rfl : i = 3 := by omega
      have r3 := R.out.2.2.1
      rw [HE.out] at r3
      have r2 := R.out.2.1
      obtain ⟨r2', hB'⟩ := R.out.ret (three n)
      have HB' := Lib.hid hB'
      clear R hB'
      go_wp2_with (first | (refine wpList_load_row rfl _ _ rfl _ rfl _ _ _ _ (r3) Tryz.underlying28 rfl size_w3 ?_) | (refine wpList_store_row rfl _ _ _ rfl _ _ rfl rfl _ _ (r2) size_w3 rfl (three_one _) ?_))
      refine bodyPost_ret (results_cell_row rfl _ _ _ _ _ _ _ rfl (r2') Tryz.underlying28 rfl size_w3) (by rfl) ?_
      exact ⟨rfl, HB'.out⟩
set_option maxHeartbeats 1000000 in
set_option maxRecDepth 100000 in
theorem plus_any (x y k : Nat) (hk : k < 18446744073709551616) (w : World) :
    Calls Tryz.prog 62 #[.agg (three x), .agg (three y), .int .u64 (k : Nat)] w fun e w' => e = .returned (.agg (three (x + y * k))) ∧ Below w.heap.size w w' := by
  have hz := (zero_of_info info_three).1
  have HSc : Hid (∀ W, Calls Tryz.prog 91 #[.agg (three y), .int .u64 (k : Nat)] W fun e w' => e = .returned (.tuple #[.agg (three (y * k)), .int .u64 (cyM y k 3 : Nat)]) ∧ Below W.heap.size W w') := Lib.hid (fun W => lscale_any y k hk W)
  obtain ⟨c, hc⟩ : ∃ c, c = cyM y k 3 := ⟨_, rfl⟩
  obtain ⟨z, hz0⟩ : ∃ z, z = y * k := ⟨_, rfl⟩
  rw [← hc, ← hz0] at HSc
  rw [← hz0]
  have HAd : Hid (∀ W, Calls Tryz.prog 30 #[.agg (three x), .agg (three z)] W fun e w' => ∃ b, e = .returned (.tuple #[.agg (three (x + z)), .bool b]) ∧ Below W.heap.size W w') := Lib.hid (fun W => (ladd_any x z W).mono fun e w' h => ⟨_, h⟩)
  obtain ⟨s, hs⟩ : ∃ s, s = x + z := ⟨_, rfl⟩
  rw [← hs] at HAd ⊢
  clear hc hz0 hs hk
  have R0 := Lib.hid (Rows3.new w 29 (three x) 29 (three y) 29 (three 0))
  go_enter Tryz.func62, Tryz.ntmps62
  go_wp2_with (refine wpList_load_row rfl _ _ rfl _ rfl _ _ _ _ (R0.out.2.1) Tryz.underlying29 rfl size_three ?_)
  generalize (((w.alloc (.cells (three x) 29)).alloc (.cells (three y) 29)).alloc (.cells (three 0) 29)) = w1 at *
  refine (HSc.out _).mono ?_
  rintro e w2 ⟨rfl, hB2⟩
  have hg2 := R0.out.2.2.1.lt
  have s2 := hB2.size
  have R2 : Hid (Rows3 w (w2.alloc (.cells (three z) 29)) 29 (three x) 29 (three y) 29 (three 0)) := Lib.hid ⟨(R0.out.1.keep hB2).alloc _, (R0.out.2.1.keep hB2).alloc _, (R0.out.2.2.1.keep hB2).alloc _, (R0.out.2.2.2.trans (hB2.mono R0.out.2.2.2.size)).alloc (by omega) _⟩
  have H0 := Lib.hid (RowAt.new w2 29 (three 0))
  have H1 := Lib.hid (RowAt.new w2 29 (three z))
  clear R0 hB2
  go_wp2_with (first | (refine wpList_store_row rfl _ _ _ rfl _ _ rfl rfl _ _ (H0.out) size_three rfl (three_one _) ?_; rw [World.setRow_alloc_new]) | (refine wpList_load_row rfl _ _ rfl _ rfl _ _ _ _ (R2.out.1) Tryz.underlying29 rfl size_three ?_) | (refine wpList_load_row rfl _ _ rfl _ rfl _ _ _ _ (H1.out) Tryz.underlying29 rfl size_three ?_))
  generalize hW2 : w2.alloc (.cells (three z) 29) = w3 at *
  refine (HAd.out _).mono ?_
  rintro e w4 ⟨b, rfl, hB4⟩
  have s4 := hB4.size
  have hg3 := R2.out.2.2.1.lt
  have R4 : Hid (Rows3 w (w4.alloc (.cells (three s) 29)) 29 (three x) 29 (three y) 29 (three 0)) := Lib.hid ⟨(R2.out.1.keep hB4).alloc _, (R2.out.2.1.keep hB4).alloc _, (R2.out.2.2.1.keep hB4).alloc _, (R2.out.2.2.2.trans (hB4.mono R2.out.2.2.2.size)).alloc (by omega) _⟩
  have H2 := Lib.hid (RowAt.new w4 29 (three 0))
  have H3 := Lib.hid (RowAt.new w4 29 (three s))
  clear R2 hB4 hW2
  go_wp2_with (first | (refine wpList_store_row rfl _ _ _ rfl _ _ rfl rfl _ _ (H2.out) size_three rfl (three_one _) ?_; rw [World.setRow_alloc_new]) | (refine wpList_load_row rfl _ _ rfl _ rfl _ _ _ _ (H3.out) Tryz.underlying29 rfl size_three ?_) | (refine wpList_store_row rfl _ _ _ rfl _ _ rfl rfl _ _ (R4.out.2.2.1) size_three rfl (three_one _) ?_))
  refine bodyPost_ret (results_cell_row rfl _ _ _ _ _ _ _ rfl (R4.out.2.2.1.setRow _) Tryz.underlying29 rfl size_three) (by rfl) ?_
  exact ⟨rfl, below_setRow R4.out.2.2.2 (by omega) _⟩
end Go.Proofs.YtjjfiidgjiekpaaGreat
end
