/- garner: Join. -/
import Derived.Test.YtjjfiidgjiekpaaGreatWLimDGarA
import Derived.Test.YtjjfiidgjiekpaaGreatB01C
import Derived.Test.YtjjfiidgjiekpaaGreatQTail
set_option linter.unusedVariables false
set_option linter.unusedSimpArgs false
set_option linter.unusedSectionVars false
namespace Go.Proofs.YtjjfiidgjiekpaaGreat
open Go.RowKit
open Alg (Prime)
theorem one3 (a b c : Int) : (#[Value.int .u64 a, .int .u64 b, .int .u64 c].all fun v => v.oneCell') = true := by simp; exact ⟨rfl, rfl, rfl⟩
set_option maxHeartbeats 2000000 in
set_option maxRecDepth 100000 in
theorem tjoin_yes {w : World} {v : Value} {p q r : Nat} (h : TrioP w w.heap.size v p q r) (hT : Tri p q r) (a b c : Nat) (ha : a < 18446744073709551616) (hb : b < 18446744073709551616) (hc : c < 18446744073709551616) :
    Calls Tryz.prog 21 #[v, .agg (three (w3n a b c))] w fun e w' => ∃ j : Nat, e = .returned (.agg (three j)) ∧ j < p * q * r ∧ j % p = a % p ∧ j % q = b % q ∧ j % r = c % r ∧ Below w.heap.size w w' := by
  have hz := (zero_of_info info_three).1
  have R0 := Rows2.new w 28 (three (w3n a b c)) 29 (three 0)
  obtain ⟨G, va, vb, vc, s, t, g1, g2, g3, rfl, hG, hFa, hFb, hFc, hr, hs, ht, hs1, ht1⟩ := h
  have hg := RowAt.below hr R0.2.2 hG
  have k0 := hg.cell (i := 0) (v := va) rfl
  have k1 := hg.cell (i := 1) (v := vb) rfl
  have k2 := hg.cell (i := 2) (v := vc) rfl
  have k3 := hg.cell (i := 3) (v := .int .u64 (s : Int)) rfl
  have k4 := hg.cell (i := 4) (v := .int .u64 (t : Int)) rfl
  have q0 : ((w.alloc (.cells (three (w3n a b c)) 28)).alloc (.cells (three 0) 29)).cell? ⟨w.heap.size, 0, none⟩ = some (.int .u64 (a : Int)) := by rw [R0.1.cell (three_get _ 0 (by omega)), wd_w3n ha hb hc 0 (by omega)]; rfl
  have q1 : ((w.alloc (.cells (three (w3n a b c)) 28)).alloc (.cells (three 0) 29)).cell? ⟨w.heap.size, 1, none⟩ = some (.int .u64 (b : Int)) := by rw [R0.1.cell (three_get _ 1 (by omega)), wd_w3n ha hb hc 1 (by omega)]; rfl
  have q2 : ((w.alloc (.cells (three (w3n a b c)) 28)).alloc (.cells (three 0) 29)).cell? ⟨w.heap.size, 2, none⟩ = some (.int .u64 (c : Int)) := by rw [R0.1.cell (three_get _ 2 (by omega)), wd_w3n ha hb hc 2 (by omega)]; rfl
  have HA : Hid (∀ i, i < 3 → (three (w3n a b c))[i]? = some (.int .u64 ((pk a b c i : Nat) : Int))) := Lib.hid (fun i hi => by rw [three_get _ i hi, wd_w3n ha hb hc i hi])
  obtain ⟨A, hA⟩ : ∃ A, A = three (w3n a b c) := ⟨_, rfl⟩
  rw [← hA] at HA R0 q0 q1 q2 hg k0 k1 k2 k3 k4 ⊢
  have HR0 := Lib.hid R0
  have HG := Lib.hid hg
  have HT := Lib.hid hT
  clear hA R0 hg hr hT
  have p3 := HT.out.p3
  have q3 := HT.out.q3
  have r3 := HT.out.r3
  have pm := HT.out.pm
  have qm := HT.out.qm
  have rm := HT.out.rm
  have HFa : Hid (∀ W, Below w.heap.size w W → Fd W w.heap.size va p g1) := Lib.hid (fun W hW => hFa.below hW)
  have HFb : Hid (∀ W, Below w.heap.size w W → Fd W w.heap.size vb q g2) := Lib.hid (fun W hW => hFb.below hW)
  have HFc : Hid (∀ W, Below w.heap.size w W → Fd W w.heap.size vc r g3) := Lib.hid (fun W hW => hFc.below hW)
  obtain ⟨f, hf⟩ : ∃ f, f = a % p := ⟨_, rfl⟩
  have HAd : Hid (∀ W, Below w.heap.size w W → Calls Tryz.prog 31 #[va, .int .u64 (a : Int), .int .u64 0] W fun e w' => e = .returned (.int .u64 (f : Int)) ∧ ∃ n, w' = W.drewN n) := Lib.hid (fun W hW => by
    have h := fadd_fd (HFa.out W hW) (a : Int) 0 (by omega) (by omega) (by omega) (by omega)
    rw [Int.add_zero, ← Int.natCast_emod, ← hf] at h
    exact h)
  have f1 : f < p := by rw [hf]; exact Nat.mod_lt _ (by omega)
  have HF0 := Lib.hid hf
  clear hf hFa hFb hFc
  go_enter Tryz.func21, Tryz.ntmps21
  go_wp2_with fail
  generalize ((w.alloc (.cells A 28)).alloc (.cells (three 0) 29)) = w1 at *
  go_quiet (fail)
  go_wp2_with fail
  refine (HAd.out _ (below_drewN HR0.out.2.2 _)).mono ?_
  rintro e w2 ⟨rfl, nw, rfl⟩
  have H9 := RowAt.new (w1.drewN (nq + nw)) 29 (three 0)
  have hB5 : Below w.heap.size w (((w1.drewN (nq + nw)).alloc (.cells (three 0) 29)).setRow w1.heap.size #[.int .u64 (f : Int), .int .u64 0, .int .u64 0]) := below_setRow ((below_drewN HR0.out.2.2 _).alloc HR0.out.2.2.size _) HR0.out.2.2.size _
  have hne0 : w.heap.size ≠ w1.heap.size := by have := HR0.out.1.lt; omega
  have hne1 : w.heap.size + 1 ≠ w1.heap.size := by have := HR0.out.2.1.lt; omega
  have hneG : G ≠ w1.heap.size := by have := HR0.out.1.lt; omega
  have h5a := (RowAt.alloc (HR0.out.1.drewN (nq + nw)) (.cells (three 0) 29)).setRowOther w1.heap.size #[.int .u64 (f : Int), .int .u64 0, .int .u64 0] hne0
  have h5b := (RowAt.alloc (HR0.out.2.1.drewN (nq + nw)) (.cells (three 0) 29)).setRowOther w1.heap.size #[.int .u64 (f : Int), .int .u64 0, .int .u64 0] hne1
  have h5g := (RowAt.alloc (HG.out.drewN (nq + nw)) (.cells (three 0) 29)).setRowOther w1.heap.size #[.int .u64 (f : Int), .int .u64 0, .int .u64 0] hneG
  have h59 := H9.setRow #[.int .u64 (f : Int), .int .u64 0, .int .u64 0]
  have H9' := Lib.hid H9
  have H5 : Hid (RowAt (((w1.drewN (nq + nw)).alloc (.cells (three 0) 29)).setRow w1.heap.size #[.int .u64 (f : Int), .int .u64 0, .int .u64 0]) w.heap.size 28 A ∧ RowAt (((w1.drewN (nq + nw)).alloc (.cells (three 0) 29)).setRow w1.heap.size #[.int .u64 (f : Int), .int .u64 0, .int .u64 0]) (w.heap.size + 1) 29 (three 0) ∧ RowAt (((w1.drewN (nq + nw)).alloc (.cells (three 0) 29)).setRow w1.heap.size #[.int .u64 (f : Int), .int .u64 0, .int .u64 0]) G 99 (trow va vb vc s t (p * q) (p * q * r)) ∧
      RowAt (((w1.drewN (nq + nw)).alloc (.cells (three 0) 29)).setRow w1.heap.size #[.int .u64 (f : Int), .int .u64 0, .int .u64 0]) w1.heap.size 29 #[.int .u64 (f : Int), .int .u64 0, .int .u64 0] ∧ Below w.heap.size w (((w1.drewN (nq + nw)).alloc (.cells (three 0) 29)).setRow w1.heap.size #[.int .u64 (f : Int), .int .u64 0, .int .u64 0])) := Lib.hid ⟨h5a, h5b, h5g, h59, hB5⟩
  clear H9 hB5 h5a h5b h5g h59 k0 k1 k2 k3 k4 q0 q1 q2
  go_wp2_with (refine wpList_store_row rfl _ _ _ rfl _ #[.int .u64 (f : Int), .int .u64 0, .int .u64 0] rfl rfl _ _ (H9'.out) size_three rfl (one3 _ _ _) ?_; generalize hW5 : ((w1.drewN (nq + nw)).alloc (.cells (three 0) 29)).setRow w1.heap.size #[.int .u64 (f : Int), .int .u64 0, .int .u64 0] = w5 at *)
  have HB5 := Lib.hid H5.out.2.2.2.2
  have j0 := H5.out.2.2.2.1.cell (i := 0) (v := .int .u64 (f : Int)) rfl
  have j1 := H5.out.2.2.2.1.cell (i := 1) (v := .int .u64 0) rfl
  have j2 := H5.out.2.2.2.1.cell (i := 2) (v := .int .u64 0) rfl
  have j3 := H5.out.2.2.1.cell (i := 3) (v := .int .u64 (s : Int)) rfl
  have j4 : w5.cell? ⟨w.heap.size, 1, none⟩ = some (.int .u64 (b : Int)) := by rw [H5.out.1.cell (HA.out 1 (by omega))]; rfl
  obtain ⟨u, hu⟩ : ∃ u : Nat, (u : Int) = ((b : Int) - (f : Int)) % (q : Int) := ⟨(((b : Int) - (f : Int)) % (q : Int)).toNat, Int.toNat_of_nonneg (Int.emod_nonneg _ (by omega))⟩
  have u1 : u < q := by have := Int.emod_lt_of_pos ((b : Int) - (f : Int)) (show (0 : Int) < q by omega); omega
  obtain ⟨k, hk⟩ : ∃ k : Nat, k = u * s % q := ⟨_, rfl⟩
  have k1 : k < q := by rw [hk]; exact Nat.mod_lt _ (by omega)
  have HP : Hid (∀ n, Calls Tryz.prog 27 #[va] (w5.drewN n) fun e w' => e = .returned (.int .u64 (p : Int)) ∧ w5.drewN n = w') := Lib.hid (fun n => fP_fd (HFa.out _ (below_drewN HB5.out n)))
  have HSu : Hid (∀ n, Calls Tryz.prog 64 #[vb, .int .u64 (b : Int), .int .u64 (f : Int)] (w5.drewN n) fun e w' => e = .returned (.int .u64 (u : Int)) ∧ ∃ m, w' = (w5.drewN n).drewN m) := Lib.hid (fun n => by
    have h := fsub_fd (HFb.out _ (below_drewN HB5.out n)) (b : Int) (f : Int) (by omega) (by omega) (by omega) (by omega)
    rw [← hu] at h; exact h)
  have HMu : Hid (∀ n, Calls Tryz.prog 63 #[vb, .int .u64 (u : Int), .int .u64 (s : Int)] (w5.drewN n) fun e w' => e = .returned (.int .u64 (k : Int)) ∧ ∃ m, w' = (w5.drewN n).drewN m) := Lib.hid (fun n => by
    have h := fmul_fd (HFb.out _ (below_drewN HB5.out n)) (u : Int) (s : Int) (by omega) (by omega) (by omega) (by omega)
    rw [← Int.natCast_mul, ← Int.natCast_emod, ← hk] at h; exact h)
  obtain ⟨x, hx⟩ : ∃ x, x = f + p * k := ⟨_, rfl⟩
  have HPl : Hid (∀ W, Calls Tryz.prog 62 #[.agg #[.int .u64 (f : Int), .int .u64 0, .int .u64 0], .agg #[.int .u64 (p : Int), .int .u64 0, .int .u64 0], .int .u64 (k : Int)] W fun e w' => e = .returned (.agg (three x)) ∧ Below W.heap.size W w') := Lib.hid (fun W => by
    have h := plus_any f p k (by omega) W
    have e1 : three f = #[.int .u64 (f : Int), .int .u64 0, .int .u64 0] := by
      have h := three_words (a := f) (b := 0) (c := 0) (by omega) (by omega) (by omega)
      simpa using h
    have e2 : three p = #[.int .u64 (p : Int), .int .u64 0, .int .u64 0] := by
      have h := three_words (a := p) (b := 0) (c := 0) (by omega) (by omega) (by omega)
      simpa using h
    rw [e1, e2, ← hx] at h; exact h)
  have HX := Lib.hid (And.intro hu (And.intro hk hx))
  clear hu hk hx hW5
  try simp only [Act.put]
  refine wp_region_qtail 15 (by kernel_rfl) (by kernel_rfl) ?_
  simp only [List.take_succ_cons, List.take_zero, List.drop_succ_cons, List.drop_zero]
  repeat (go_big_quiet_step ((first | (go_at_call 27; exact Calls.quiet_of (quiet0 (HP.out _))) | (go_at_call 64; exact Calls.quiet_of (HSu.out _)) | (go_at_call 63; exact Calls.quiet_of (HMu.out _)))))
  refine wpQuiet_nil ?_
  intro _ hw'
  obtain ⟨nq2, hw''⟩ := hw'
  subst hw''
  have H5' : Hid (RowAt (w5.drewN nq2) w.heap.size 28 A ∧ RowAt (w5.drewN nq2) (w.heap.size + 1) 29 (three 0) ∧ RowAt (w5.drewN nq2) G 99 (trow va vb vc s t (p * q) (p * q * r)) ∧ RowAt (w5.drewN nq2) w1.heap.size 29 #[.int .u64 (f : Int), .int .u64 0, .int .u64 0] ∧ Below w.heap.size w (w5.drewN nq2)) := Lib.hid ⟨H5.out.1, H5.out.2.1, H5.out.2.2.1, H5.out.2.2.2.1, below_drewN HB5.out nq2⟩
  clear j0 j1 j2 j3 j4 HP HSu HMu
  go_wp2_with (first | (go_at_call 62; refine (HPl.out _).mono ?_; rintro e w6 ⟨rfl, hB6⟩; have H6 : Hid (RowAt w6 w.heap.size 28 A ∧ RowAt w6 (w.heap.size + 1) 29 (three 0) ∧ RowAt w6 G 99 (trow va vb vc s t (p * q) (p * q * r)) ∧ RowAt w6 w1.heap.size 29 #[.int .u64 (f : Int), .int .u64 0, .int .u64 0] ∧ Below w.heap.size w w6) := Lib.hid ⟨H5'.out.1.keep hB6, H5'.out.2.1.keep hB6, H5'.out.2.2.1.keep hB6, H5'.out.2.2.2.1.keep hB6, H5'.out.2.2.2.2.trans (hB6.mono H5'.out.2.2.2.2.size)⟩; clear hB6) | (refine wpList_store_row rfl _ _ _ rfl _ _ rfl rfl _ _ (H6.out.2.2.2.1) size_three rfl (three_one _) ?_))
  have HK6 : Hid (RowAt ((w6.setRow w1.heap.size (three x)).drewN 1) w.heap.size 28 A ∧ RowAt ((w6.setRow w1.heap.size (three x)).drewN 1) w1.heap.size 29 (three x) ∧ RowAt ((w6.setRow w1.heap.size (three x)).drewN 1) G 99 (trow va vb vc s t (p * q) (p * q * r)) ∧ RowAt ((w6.setRow w1.heap.size (three x)).drewN 1) (w.heap.size + 1) 29 (three 0) ∧ Below w.heap.size w ((w6.setRow w1.heap.size (three x)).drewN 1)) :=
    Lib.hid ⟨H6.out.1.setRowOther _ _ hne0, H6.out.2.2.2.1.setRow _, H6.out.2.2.1.setRowOther _ _ hneG, H6.out.2.1.setRowOther _ _ hne1, below_drewN (below_setRow H6.out.2.2.2.2 HR0.out.2.2.size _) 1⟩
  generalize w6.setRow w1.heap.size (three x) = w7 at *
  clear H6 H5' H5 HB5
  have HKp : Hid (∀ W W', (RowAt W w.heap.size 28 A ∧ RowAt W w1.heap.size 29 (three x) ∧ RowAt W G 99 (trow va vb vc s t (p * q) (p * q * r)) ∧ RowAt W (w.heap.size + 1) 29 (three 0) ∧ Below w.heap.size w W) → Below W.heap.size W W' → (RowAt W' w.heap.size 28 A ∧ RowAt W' w1.heap.size 29 (three x) ∧ RowAt W' G 99 (trow va vb vc s t (p * q) (p * q * r)) ∧ RowAt W' (w.heap.size + 1) 29 (three 0) ∧ Below w.heap.size w W')) :=
    Lib.hid (fun W W' h hB => ⟨h.1.keep hB, h.2.1.keep hB, h.2.2.1.keep hB, h.2.2.2.1.keep hB, h.2.2.2.2.trans (hB.mono h.2.2.2.2.size)⟩)
  have HSc : Hid (∀ W, (RowAt W w.heap.size 28 A ∧ RowAt W w1.heap.size 29 (three x) ∧ RowAt W G 99 (trow va vb vc s t (p * q) (p * q * r)) ∧ RowAt W (w.heap.size + 1) 29 (three 0) ∧ Below w.heap.size w W) → W.cell? ⟨w.heap.size, 2, none⟩ = some (.int .u64 (c : Int)) ∧ W.cell? ⟨G, 4, none⟩ = some (.int .u64 (t : Int)) ∧ RowAt W w1.heap.size 29 (three x) ∧ W.rangeAt G 5 (tl (p * q))) :=
    Lib.hid (fun W h => ⟨by rw [h.1.cell (HA.out 2 (by omega))]; rfl, h.2.2.1.cell rfl, h.2.1, h.2.2.1.two⟩)
  obtain ⟨e, he⟩ : ∃ e : Nat, e = x % r := ⟨_, rfl⟩
  have e1 : e < r := by rw [he]; exact Nat.mod_lt _ (by omega)
  obtain ⟨hu, hk, hx⟩ := HX.out
  have hxb : x < 6277101735386680763835789423207666416102355444464034512896 := by
    have h1 : p * k ≤ 9223372036854775808 * 9223372036854775808 := Nat.mul_le_mul (by omega) (by omega)
    rw [hx]; omega
  obtain ⟨y, hy⟩ : ∃ y : Nat, (y : Int) = ((c : Int) - (e : Int)) % (r : Int) := ⟨(((c : Int) - (e : Int)) % (r : Int)).toNat, Int.toNat_of_nonneg (Int.emod_nonneg _ (by omega))⟩
  have y1 : y < r := by have := Int.emod_lt_of_pos ((c : Int) - (e : Int)) (show (0 : Int) < r by omega); omega
  obtain ⟨l, hl⟩ : ∃ l : Nat, l = y * t % r := ⟨_, rfl⟩
  have l1 : l < r := by rw [hl]; exact Nat.mod_lt _ (by omega)
  obtain ⟨j, hj⟩ : ∃ j, j = x + p * q * l := ⟨_, rfl⟩
  have fin : Hid (j < p * q * r ∧ j % p = a % p ∧ j % q = b % q ∧ j % r = c % r) := Lib.hid (by
    have hf := HF0.out
    obtain ⟨h0, hlt, hmp, hmq, hmr⟩ := joinN_law (p := (p : Int)) (q := (q : Int)) (r := (r : Int)) (t2 := (s : Int)) (t3 := (t : Int)) (a := (a : Int)) (b := (b : Int)) (c := (c : Int)) (by omega) (by omega) (by omega) hs1 ht1
    have ef : (a : Int) % (p : Int) = (f : Int) := by rw [hf]; rfl
    have ex : joinX (p : Int) (q : Int) (s : Int) (a : Int) (b : Int) = (x : Int) := by
      unfold joinX
      rw [ef, ← hu, ← Int.natCast_mul, ← Int.natCast_emod, ← hk, hx]; omega
    have ej : joinN (p : Int) (q : Int) (r : Int) (s : Int) (t : Int) (a : Int) (b : Int) (c : Int) = (j : Int) := by
      unfold joinN
      rw [ex, ← Int.natCast_emod x r, ← he, ← hy, ← Int.natCast_mul y t, ← Int.natCast_emod, ← hl, hj]
      simp only [Int.natCast_add, Int.natCast_mul]
    rw [ej] at hlt hmp hmq hmr
    refine ⟨?_, ?_, ?_, ?_⟩
    · exact_mod_cast hlt
    · exact_mod_cast hmp
    · exact_mod_cast hmq
    · exact_mod_cast hmr)
  have HRs : Hid (∀ W, Calls Tryz.prog 65 #[.agg (three x), .int .u64 (r : Int)] W fun e' w' => e' = .returned (.int .u64 (e : Int)) ∧ Below W.heap.size W w') := Lib.hid (fun W => by
    have h := lrest_any x r (by omega) W
    rw [if_neg (by omega), Nat.mod_eq_of_lt hxb, ← he] at h
    exact h)
  have HSs : Hid (∀ W, Below w.heap.size w W → Calls Tryz.prog 64 #[vc, .int .u64 (c : Int), .int .u64 (e : Int)] W fun e' w' => e' = .returned (.int .u64 (y : Int)) ∧ ∃ m, w' = W.drewN m) := Lib.hid (fun W hW => by
    have h := fsub_fd (HFc.out _ hW) (c : Int) (e : Int) (by omega) (by omega) (by omega) (by omega)
    rw [← hy] at h; exact h)
  have HMs : Hid (∀ W, Below w.heap.size w W → Calls Tryz.prog 63 #[vc, .int .u64 (y : Int), .int .u64 (t : Int)] W fun e' w' => e' = .returned (.int .u64 (l : Int)) ∧ ∃ m, w' = W.drewN m) := Lib.hid (fun W hW => by
    have h := fmul_fd (HFc.out _ hW) (y : Int) (t : Int) (by omega) (by omega) (by omega) (by omega)
    rw [← Int.natCast_mul, ← Int.natCast_emod, ← hl] at h; exact h)
  have HPs : Hid (∀ W, Calls Tryz.prog 62 #[.agg (three x), .agg (three (p * q)), .int .u64 (l : Int)] W fun e' w' => e' = .returned (.agg (three j)) ∧ Below W.heap.size W w') := Lib.hid (fun W => by
    have h := plus_any x (p * q) l (by omega) W
    rw [← hj] at h; exact h)
  have HP7 : Hid (∀ W, (RowAt W w.heap.size 28 A ∧ RowAt W w1.heap.size 29 (three x) ∧ RowAt W G 99 (trow va vb vc s t (p * q) (p * q * r)) ∧ RowAt W (w.heap.size + 1) 29 (three 0) ∧ Below w.heap.size w W) → Calls Tryz.prog 27 #[vc] W fun e' w' => e' = .returned (.int .u64 (r : Int)) ∧ (RowAt w' w.heap.size 28 A ∧ RowAt w' w1.heap.size 29 (three x) ∧ RowAt w' G 99 (trow va vb vc s t (p * q) (p * q * r)) ∧ RowAt w' (w.heap.size + 1) 29 (three 0) ∧ Below w.heap.size w w')) := Lib.hid (fun W h => (fP_fd (HFc.out W h.2.2.2.2)).mono fun e2 w2 hh => ⟨hh.1, hh.2 ▸ h⟩)
  have HR7 : Hid (∀ W, (RowAt W w.heap.size 28 A ∧ RowAt W w1.heap.size 29 (three x) ∧ RowAt W G 99 (trow va vb vc s t (p * q) (p * q * r)) ∧ RowAt W (w.heap.size + 1) 29 (three 0) ∧ Below w.heap.size w W) → Calls Tryz.prog 65 #[.agg (three x), .int .u64 (r : Int)] W fun e' w' => e' = .returned (.int .u64 (e : Int)) ∧ (RowAt w' w.heap.size 28 A ∧ RowAt w' w1.heap.size 29 (three x) ∧ RowAt w' G 99 (trow va vb vc s t (p * q) (p * q * r)) ∧ RowAt w' (w.heap.size + 1) 29 (three 0) ∧ Below w.heap.size w w')) := Lib.hid (fun W h => (HRs.out W).mono fun e2 w2 hh => ⟨hh.1, HKp.out _ _ h hh.2⟩)
  have HS7 : Hid (∀ W, (RowAt W w.heap.size 28 A ∧ RowAt W w1.heap.size 29 (three x) ∧ RowAt W G 99 (trow va vb vc s t (p * q) (p * q * r)) ∧ RowAt W (w.heap.size + 1) 29 (three 0) ∧ Below w.heap.size w W) → Calls Tryz.prog 64 #[vc, .int .u64 (c : Int), .int .u64 (e : Int)] W fun e' w' => e' = .returned (.int .u64 (y : Int)) ∧ (RowAt w' w.heap.size 28 A ∧ RowAt w' w1.heap.size 29 (three x) ∧ RowAt w' G 99 (trow va vb vc s t (p * q) (p * q * r)) ∧ RowAt w' (w.heap.size + 1) 29 (three 0) ∧ Below w.heap.size w w')) := Lib.hid (fun W h => (HSs.out W h.2.2.2.2).mono fun e2 w2 hh => ⟨hh.1, by obtain ⟨_, m, rfl⟩ := hh; exact ⟨h.1, h.2.1, h.2.2.1, h.2.2.2.1, below_drewN h.2.2.2.2 m⟩⟩)
  have HM7 : Hid (∀ W, (RowAt W w.heap.size 28 A ∧ RowAt W w1.heap.size 29 (three x) ∧ RowAt W G 99 (trow va vb vc s t (p * q) (p * q * r)) ∧ RowAt W (w.heap.size + 1) 29 (three 0) ∧ Below w.heap.size w W) → Calls Tryz.prog 63 #[vc, .int .u64 (y : Int), .int .u64 (t : Int)] W fun e' w' => e' = .returned (.int .u64 (l : Int)) ∧ (RowAt w' w.heap.size 28 A ∧ RowAt w' w1.heap.size 29 (three x) ∧ RowAt w' G 99 (trow va vb vc s t (p * q) (p * q * r)) ∧ RowAt w' (w.heap.size + 1) 29 (three 0) ∧ Below w.heap.size w w')) := Lib.hid (fun W h => (HMs.out W h.2.2.2.2).mono fun e2 w2 hh => ⟨hh.1, by obtain ⟨_, m, rfl⟩ := hh; exact ⟨h.1, h.2.1, h.2.2.1, h.2.2.2.1, below_drewN h.2.2.2.2 m⟩⟩)
  have HP9 : Hid (∀ W, (RowAt W w.heap.size 28 A ∧ RowAt W w1.heap.size 29 (three x) ∧ RowAt W G 99 (trow va vb vc s t (p * q) (p * q * r)) ∧ RowAt W (w.heap.size + 1) 29 (three 0) ∧ Below w.heap.size w W) → Calls Tryz.prog 62 #[.agg (three x), .agg (tl (p * q)).toArray, .int .u64 (l : Int)] W fun e' w' => e' = .returned (.agg (three j)) ∧ (RowAt w' w.heap.size 28 A ∧ RowAt w' w1.heap.size 29 (three x) ∧ RowAt w' G 99 (trow va vb vc s t (p * q) (p * q * r)) ∧ RowAt w' (w.heap.size + 1) 29 (three 0) ∧ Below w.heap.size w w')) := Lib.hid (fun W h => (HPs.out W).mono fun e2 w2 hh => ⟨hh.1, HKp.out _ _ h hh.2⟩)
  have HSt : Hid (∀ W, (RowAt W w.heap.size 28 A ∧ RowAt W w1.heap.size 29 (three x) ∧ RowAt W G 99 (trow va vb vc s t (p * q) (p * q * r)) ∧ RowAt W (w.heap.size + 1) 29 (three 0) ∧ Below w.heap.size w W) → (W.setRow (w.heap.size + 1) (three j)).cell? ⟨w.heap.size, 2, none⟩ = some (.int .u64 (c : Int)) ∧ (W.setRow (w.heap.size + 1) (three j)).cell? ⟨G, 4, none⟩ = some (.int .u64 (t : Int)) ∧ RowAt (W.setRow (w.heap.size + 1) (three j)) w1.heap.size 29 (three x) ∧ (W.setRow (w.heap.size + 1) (three j)).rangeAt G 5 (tl (p * q))) := Lib.hid (fun W h => by
    have h1 := h.1.setRowOther (w.heap.size + 1) (three j) (by omega)
    have h2 := h.2.1.setRowOther (w.heap.size + 1) (three j) (fun hh => hne1 hh.symm)
    have h3 := h.2.2.1.setRowOther (w.heap.size + 1) (three j) (by omega)
    exact ⟨by rw [h1.cell (HA.out 2 (by omega))]; rfl, h3.cell rfl, h2, h3.two⟩)
  clear HRs HSs HMs HPs he e1 hu hk hx hxb hy y1 hl l1 hj HX HF0 HKp HPl
  change (Code.region _ _ true).wp _ _ _ _
  refine wp_region_held_drew (S := fun wz => wz.cell? ⟨w.heap.size, 2, none⟩ = some (.int .u64 (c : Int)) ∧ wz.cell? ⟨G, 4, none⟩ = some (.int .u64 (t : Int)) ∧ RowAt wz w1.heap.size 29 (three x) ∧ wz.rangeAt G 5 (tl (p * q))) (by kernel_rfl) (HSc.out _ HK6.out) (fun hHeld => ?_)
  refine wpAnyH_take (i := 0) rfl (by kernel_rfl) (by kernel_rfl) (by kernel_rfl) (fun _ _ _ h => h) (yieldsIf_load_row (by rfl) _ _ rfl _ rfl _ _ _ (fun wz h => h.2.2.1) Tryz.underlying29 rfl size_three) (by assumption) ?_
  try simp only [Act.put, List.getElem_toArray, List.getElem_cons_zero, List.getElem_cons_succ, List.setIfInBounds_toArray, List.set_cons_zero, List.set_cons_succ]
  refine wpAnyH_take (i := 1) (v := ?_) rfl (by kernel_rfl) (by kernel_rfl) (by kernel_rfl) (fun _ _ _ h => h) (Or.inl ⟨by rfl, ?_⟩) (by assumption) ?_
  rotate_left
  · intro w hSw; (try dsimp only at hSw); go_simp; try with_reducible rfl
  try simp only [Act.put, List.getElem_toArray, List.getElem_cons_zero, List.getElem_cons_succ, List.setIfInBounds_toArray, List.set_cons_zero, List.set_cons_succ]
  refine wpAnyH_take (i := 2) (v := ?_) rfl (by kernel_rfl) (by kernel_rfl) (by kernel_rfl) (fun _ _ _ h => h) (Or.inl ⟨by rfl, ?_⟩) (by assumption) ?_
  rotate_left
  · intro w hSw; (try dsimp only at hSw); go_simp; try with_reducible rfl
  try simp only [Act.put, List.getElem_toArray, List.getElem_cons_zero, List.getElem_cons_succ, List.setIfInBounds_toArray, List.set_cons_zero, List.set_cons_succ]
  refine wpAnyH_take (i := 3) (v := ?_) rfl (by kernel_rfl) (by kernel_rfl) (by kernel_rfl) (fun _ _ _ h => h) (Or.inl ⟨by rfl, ?_⟩) (by assumption) ?_
  rotate_left
  · intro w hSw; (try dsimp only at hSw); go_simp; try with_reducible rfl
  try simp only [Act.put, List.getElem_toArray, List.getElem_cons_zero, List.getElem_cons_succ, List.setIfInBounds_toArray, List.set_cons_zero, List.set_cons_succ]
  refine wpAnyH_take (i := 4) rfl (by kernel_rfl) (by kernel_rfl) (by kernel_rfl) (fun _ _ _ h => h) (yieldsIf_load_mid (by rfl) _ _ rfl _ _ rfl _ _ (fun wz h => h.2.2.2) Tryz.underlying29 rfl (by exact size_three)) (by assumption) ?_
  try simp only [Act.put, List.getElem_toArray, List.getElem_cons_zero, List.getElem_cons_succ, List.setIfInBounds_toArray, List.set_cons_zero, List.set_cons_succ]
  refine wpAnyH_take (i := 5) (v := ?_) rfl (by kernel_rfl) (by kernel_rfl) (by kernel_rfl) (fun _ _ _ h => h) (Or.inl ⟨by rfl, ?_⟩) (by assumption) ?_
  rotate_left
  · intro w hSw; (try dsimp only at hSw); go_simp; try with_reducible rfl
  try simp only [Act.put, List.getElem_toArray, List.getElem_cons_zero, List.getElem_cons_succ, List.setIfInBounds_toArray, List.set_cons_zero, List.set_cons_succ]
  refine wpAnyH_take (i := 6) (v := ?_) rfl (by kernel_rfl) (by kernel_rfl) (by kernel_rfl) (fun _ _ _ h => h) (Or.inl ⟨by rfl, ?_⟩) (by assumption) ?_
  rotate_left
  · intro w hSw; (try dsimp only at hSw); go_simp; try with_reducible rfl
  try simp only [Act.put, List.getElem_toArray, List.getElem_cons_zero, List.getElem_cons_succ, List.setIfInBounds_toArray, List.set_cons_zero, List.set_cons_succ]
  refine wpAnyH_take (i := 7) (v := ?_) rfl (by kernel_rfl) (by kernel_rfl) (by kernel_rfl) (fun _ _ _ h => h) (Or.inl ⟨by rfl, ?_⟩) (by assumption) ?_
  rotate_left
  · intro w hSw; (try dsimp only at hSw); go_simp; try with_reducible rfl
  try simp only [Act.put, List.getElem_toArray, List.getElem_cons_zero, List.getElem_cons_succ, List.setIfInBounds_toArray, List.set_cons_zero, List.set_cons_succ]
  refine wpAnyH_take (i := 8) (v := ?_) rfl (by kernel_rfl) (by kernel_rfl) (by kernel_rfl) (fun _ _ _ h => h) (Or.inl ⟨by rfl, ?_⟩) (by assumption) ?_
  rotate_left
  · intro w hSw; (try dsimp only at hSw); go_simp; try with_reducible rfl
  try simp only [Act.put, List.getElem_toArray, List.getElem_cons_zero, List.getElem_cons_succ, List.setIfInBounds_toArray, List.set_cons_zero, List.set_cons_succ]
  refine wpAnyH_take (i := 9) rfl (by kernel_rfl) (by kernel_rfl) (by kernel_rfl) (fun _ _ _ h => h) (yieldsIf_load_row (by rfl) _ _ rfl _ rfl _ _ _ (fun wz h => h.2.2.1) Tryz.underlying29 rfl size_three) (by assumption) ?_
  try simp only [Act.put, List.getElem_toArray, List.getElem_cons_zero, List.getElem_cons_succ, List.setIfInBounds_toArray, List.set_cons_zero, List.set_cons_succ]
  refine wpAnyH_take (i := 10) (v := ?_) rfl (by kernel_rfl) (by kernel_rfl) (by kernel_rfl) (fun _ _ _ h => h) (Or.inl ⟨by rfl, ?_⟩) (by assumption) ?_
  rotate_left
  · intro w hSw; (try dsimp only at hSw); go_simp; try with_reducible rfl
  try simp only [Act.put, List.getElem_toArray, List.getElem_cons_zero, List.getElem_cons_succ, List.setIfInBounds_toArray, List.set_cons_zero, List.set_cons_succ]
  refine wpAnyH_take (i := 14) (v := ?_) rfl (by kernel_rfl) (by kernel_rfl) (by kernel_rfl) (fun _ _ _ h => h) (Or.inl ⟨by rfl, ?_⟩) (by assumption) ?_
  rotate_left
  · intro w hSw; (try dsimp only at hSw); go_simp; try with_reducible rfl
  try simp only [Act.put, List.getElem_toArray, List.getElem_cons_zero, List.getElem_cons_succ, List.setIfInBounds_toArray, List.set_cons_zero, List.set_cons_succ]
  refine wpAnyH_take (i := 15) (v := ?_) rfl (by kernel_rfl) (by kernel_rfl) (by kernel_rfl) (fun _ _ _ h => h) (Or.inl ⟨by rfl, ?_⟩) (by assumption) ?_
  rotate_left
  · intro w hSw; (try dsimp only at hSw); go_simp; try with_reducible rfl
  try simp only [Act.put, List.getElem_toArray, List.getElem_cons_zero, List.getElem_cons_succ, List.setIfInBounds_toArray, List.set_cons_zero, List.set_cons_succ]
  refine wpAnyH_take (i := 16) (v := ?_) rfl (by kernel_rfl) (by kernel_rfl) (by kernel_rfl) (fun _ _ _ h => h) (Or.inl ⟨by rfl, ?_⟩) (by assumption) ?_
  rotate_left
  · intro w hSw; (try dsimp only at hSw); go_simp; try with_reducible rfl
  try simp only [Act.put, List.getElem_toArray, List.getElem_cons_zero, List.getElem_cons_succ, List.setIfInBounds_toArray, List.set_cons_zero, List.set_cons_succ]
  refine wpAnyH_take (i := 17) (v := ?_) rfl (by kernel_rfl) (by kernel_rfl) (by kernel_rfl) (fun _ _ _ h => h) (Or.inl ⟨by rfl, ?_⟩) (by assumption) ?_
  rotate_left
  · intro w hSw; (try dsimp only at hSw); go_simp; try with_reducible rfl
  try simp only [Act.put, List.getElem_toArray, List.getElem_cons_zero, List.getElem_cons_succ, List.setIfInBounds_toArray, List.set_cons_zero, List.set_cons_succ]
  refine wpAnyH_ready (rs := [11]) (by kernel_rfl) (by simp) ?_
  refine AllReadyH.cons rfl (fun K hK => ?_) AllReadyH.nil
  try simp only [List.getElem_toArray, List.getElem_cons_zero, List.getElem_cons_succ]
  rw [if_pos (by rfl)]
  go_wp2_with (go_at_call 27; refine (HP7.out _ HK6.out).mono ?_; rintro e y11 ⟨rfl, hY11⟩)
  have z11 := Lib.hid hY11
  clear hY11
  refine hK.out _ _ (HSc.out _ z11.out) (fun _ => ?_)
  clear hK K
  try simp only [Act.put, List.getElem_toArray, List.getElem_cons_zero, List.getElem_cons_succ, List.setIfInBounds_toArray, List.set_cons_zero, List.set_cons_succ]
  refine wpAnyH_ready (rs := [12]) (by kernel_rfl) (by simp) ?_
  refine AllReadyH.cons rfl (fun K hK => ?_) AllReadyH.nil
  try simp only [List.getElem_toArray, List.getElem_cons_zero, List.getElem_cons_succ]
  rw [if_pos (by rfl)]
  go_wp2_with (go_at_call 65; refine (HR7.out _ z11.out).mono ?_; rintro e y12 ⟨rfl, hY12⟩)
  have z12 := Lib.hid hY12
  clear hY12
  refine hK.out _ _ (HSc.out _ z12.out) (fun _ => ?_)
  clear hK K
  try simp only [Act.put, List.getElem_toArray, List.getElem_cons_zero, List.getElem_cons_succ, List.setIfInBounds_toArray, List.set_cons_zero, List.set_cons_succ]
  refine wpAnyH_ready (rs := [13]) (by kernel_rfl) (by simp) ?_
  refine AllReadyH.cons rfl (fun K hK => ?_) AllReadyH.nil
  try simp only [List.getElem_toArray, List.getElem_cons_zero, List.getElem_cons_succ]
  rw [if_pos (by rfl)]
  go_wp2_with (go_at_call 64; refine (HS7.out _ z12.out).mono ?_; rintro e y13 ⟨rfl, hY13⟩)
  have z13 := Lib.hid hY13
  clear hY13
  refine hK.out _ _ (HSc.out _ z13.out) (fun _ => ?_)
  clear hK K
  try simp only [Act.put, List.getElem_toArray, List.getElem_cons_zero, List.getElem_cons_succ, List.setIfInBounds_toArray, List.set_cons_zero, List.set_cons_succ]
  refine wpAnyH_ready (rs := [18]) (by kernel_rfl) (by simp) ?_
  refine AllReadyH.cons rfl (fun K hK => ?_) AllReadyH.nil
  try simp only [List.getElem_toArray, List.getElem_cons_zero, List.getElem_cons_succ]
  rw [if_pos (by rfl)]
  go_wp2_with (go_at_call 63; refine (HM7.out _ z13.out).mono ?_; rintro e y18 ⟨rfl, hY18⟩)
  have z18 := Lib.hid hY18
  clear hY18
  refine hK.out _ _ (HSc.out _ z18.out) (fun _ => ?_)
  clear hK K
  try simp only [Act.put, List.getElem_toArray, List.getElem_cons_zero, List.getElem_cons_succ, List.setIfInBounds_toArray, List.set_cons_zero, List.set_cons_succ]
  refine wpAnyH_ready (rs := [19]) (by kernel_rfl) (by simp) ?_
  refine AllReadyH.cons rfl (fun K hK => ?_) AllReadyH.nil
  try simp only [List.getElem_toArray, List.getElem_cons_zero, List.getElem_cons_succ]
  rw [if_pos (by rfl)]
  go_wp2_with (go_at_call 62; refine (HP9.out _ z18.out).mono ?_; rintro e y19 ⟨rfl, hY19⟩)
  have z19 := Lib.hid hY19
  clear hY19
  refine hK.out _ _ (HSc.out _ z19.out) (fun _ => ?_)
  clear hK K
  try simp only [Act.put, List.getElem_toArray, List.getElem_cons_zero, List.getElem_cons_succ, List.setIfInBounds_toArray, List.set_cons_zero, List.set_cons_succ]
  refine wpAnyH_ready (rs := [20]) (by kernel_rfl) (by simp) ?_
  refine AllReadyH.cons rfl (fun K hK => ?_) AllReadyH.nil
  try simp only [List.getElem_toArray, List.getElem_cons_zero, List.getElem_cons_succ]
  rw [if_pos (by rfl)]
  refine wp_store_row _ _ _ rfl _ _ rfl rfl _ _ (z19.out.2.2.2.1) size_three rfl (three_one _) ?_
  refine hK.out _ _ (HSt.out _ z19.out) (fun _ => ?_)
  clear hK K
  try simp only [Act.put, List.getElem_toArray, List.getElem_cons_zero, List.getElem_cons_succ, List.setIfInBounds_toArray, List.set_cons_zero, List.set_cons_succ]
  refine wpAnyH_done (by kernel_rfl) ?_ _
  go_wp2
  refine bodyPost_ret (results_cell_row rfl _ _ _ _ _ _ _ rfl (z19.out.2.2.2.1.setRow _) Tryz.underlying29 rfl size_three) (by rfl) ?_
  exact ⟨j, rfl, fin.out.1, fin.out.2.1, fin.out.2.2.1, fin.out.2.2.2, below_setRow z19.out.2.2.2.2 (by omega) _⟩
end Go.Proofs.YtjjfiidgjiekpaaGreat
