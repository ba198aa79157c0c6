/- The law GarnerBack. -/
import Derived.Test.YtjjfiidgjiekpaaGreatWG23AG23BGaM
set_option linter.unusedVariables false
set_option linter.unusedSimpArgs false
set_option linter.unusedSectionVars false
set_option linter.unusedVariables false
set_option linter.unusedSimpArgs false
namespace Go.Proofs.YtjjfiidgjiekpaaGreat
open Go.RowKit
open Alg (Prime)
set_option maxHeartbeats 8000000 in
set_option maxRecDepth 100000 in
theorem garnerBack_walk (w : World) (Aa : Option Addr) (ca : Nat) (kinda kka ppa : Int) (esa : List Ent) (Ab : Option Addr) (cb : Nat) (kindb kkb ppb : Int) (esb : List Ent) (Ac : Option Addr) (cc : Nat) (kindc kkc ppc : Int) (esc : List Ent) (x : Nat) (hsa : SrcA w Aa ca kinda kka ppa esa) (hsb : SrcA w Ab cb kindb kkb ppb esb) (hsc : SrcA w Ac cc kindc kkc ppc esc) (hx : x < 6277101735386680763835789423207666416102355444464034512896) :
    Calls Tryz.prog 6 #[.agg #[.int .i64 kinda, .int .i64 kka, .int .u64 ppa, .slice Aa esa.length ca, .int .i64 kindb, .int .i64 kkb, .int .u64 ppb, .slice Ab esb.length cb, .int .i64 kindc, .int .i64 kkc, .int .u64 ppc, .slice Ac esc.length cc], .agg (three x)] w fun e w' => e = .returned (.bool true) ∧ Below w.heap.size w w' := by
  have R0 := Lib.hid (lay2 w 27 29 #[.int .i64 kinda, .int .i64 kka, .int .u64 ppa, .slice Aa esa.length ca, .int .i64 kindb, .int .i64 kkb, .int .u64 ppb, .slice Ab esb.length cb, .int .i64 kindc, .int .i64 kkc, .int .u64 ppc, .slice Ac esc.length cc] (three x))
  have HSa := Lib.hid hsa
  have HSb := Lib.hid hsb
  have HSc := Lib.hid hsc
  have hz : ∀ w, (zeroValue 29).run Tryz.prog w = .ok (.agg #[.int .u64 0, .int .u64 0, .int .u64 0]) w := (zero_of_info info_three).1
  have hz3 : ∀ w, (zeroValue 28).run Tryz.prog w = .ok (.agg #[.int .u64 0, .int .u64 0, .int .u64 0]) w := (zero_of_info info_w3).1
  clear hsa hsb hsc
  go_enter Tryz.func6, Tryz.ntmps6
  go_wp2_with fail
  generalize ((w.alloc (.cells #[.int .i64 kinda, .int .i64 kka, .int .u64 ppa, .slice Aa esa.length ca, .int .i64 kindb, .int .i64 kkb, .int .u64 ppb, .slice Ab esb.length cb, .int .i64 kindc, .int .i64 kkc, .int .u64 ppc, .slice Ac esc.length cc] 27)).alloc (.cells (three x) 29)) = w1 at *
  refine (alive23_any w1).mono ?_
  rintro e w2 ⟨rfl, hB2⟩
  have R2 : Hid (RowAt w2 w.heap.size 27 #[.int .i64 kinda, .int .i64 kka, .int .u64 ppa, .slice Aa esa.length ca, .int .i64 kindb, .int .i64 kkb, .int .u64 ppb, .slice Ab esb.length cb, .int .i64 kindc, .int .i64 kkc, .int .u64 ppc, .slice Ac esc.length cc] ∧ RowAt w2 (w.heap.size + 1) 29 (three x) ∧ Below w.heap.size w w2) := Lib.hid ⟨R0.out.1.keep hB2, R0.out.2.1.keep hB2, R0.out.2.2.trans (hB2.mono R0.out.2.2.size)⟩
  clear hB2 R0
  go_wp2_with (refine wpList_load_row rfl _ _ rfl _ rfl _ _ _ _ (R2.out.1) Tryz.underlying27 rfl (by exact size_threes) ?_)
  refine (trio_any w2 Aa ca kinda kka ppa esa Ab cb kindb kkb ppb esb Ac cc kindc kkc ppc esc (HSa.out.below R2.out.2.2) (HSb.out.below R2.out.2.2) (HSc.out.below R2.out.2.2)).mono ?_
  rintro e w3 ⟨v, p, q, r, er, ok, rfl, hTR, hB3⟩
  have hw3 : ∀ k, w.heap.size + k < w2.heap.size → w.heap.size + k ≠ w3.heap.size := fun k hk => by have := hB3.size; omega
  have hl0 := R2.out.2.1.lt
  have hl1 := R2.out.2.2.size
  have hl2 := hB3.size
  have H6 := Lib.hid (RowAt.new w3 28 #[.int .u64 0, .int .u64 0, .int .u64 0])
  have hTR4 : TR (w3.alloc (.cells #[.int .u64 0, .int .u64 0, .int .u64 0] 28)) v p q r er ok := hTR.keep ((Below.refl w3.heap.size w3).alloc (Nat.le_refl _) _)
  have K4 : Hid (RowAt ((w3.alloc (.cells #[.int .u64 0, .int .u64 0, .int .u64 0] 28)).setRow w3.heap.size #[.int .u64 (p : Int), .int .u64 (q : Int), .int .u64 (r : Int)]) (w.heap.size + 1) 29 (three x) ∧ RowAt ((w3.alloc (.cells #[.int .u64 0, .int .u64 0, .int .u64 0] 28)).setRow w3.heap.size #[.int .u64 (p : Int), .int .u64 (q : Int), .int .u64 (r : Int)]) w3.heap.size 28 #[.int .u64 (p : Int), .int .u64 (q : Int), .int .u64 (r : Int)] ∧ TR ((w3.alloc (.cells #[.int .u64 0, .int .u64 0, .int .u64 0] 28)).setRow w3.heap.size #[.int .u64 (p : Int), .int .u64 (q : Int), .int .u64 (r : Int)]) v p q r er ok ∧ Below w.heap.size w ((w3.alloc (.cells #[.int .u64 0, .int .u64 0, .int .u64 0] 28)).setRow w3.heap.size #[.int .u64 (p : Int), .int .u64 (q : Int), .int .u64 (r : Int)])) := Lib.hid ⟨((R2.out.2.1.keep hB3).alloc _).setRowOther _ _ (by omega), H6.out.setRow _, hTR4.setRow (m := 0) H6.out _, below_setRow ((R2.out.2.2.trans (hB3.mono hl1)).alloc (by omega) _) (by omega) _⟩
  clear hTR hTR4 hB3 R2
  have KP : Hid (∀ W W', (RowAt W (w.heap.size + 1) 29 (three x) ∧ RowAt W w3.heap.size 28 #[.int .u64 (p : Int), .int .u64 (q : Int), .int .u64 (r : Int)] ∧ TR W v p q r er ok ∧ Below w.heap.size w W) → Below W.heap.size W W' → (RowAt W' (w.heap.size + 1) 29 (three x) ∧ RowAt W' w3.heap.size 28 #[.int .u64 (p : Int), .int .u64 (q : Int), .int .u64 (r : Int)] ∧ TR W' v p q r er ok ∧ Below w.heap.size w W')) := Lib.hid (fun W W' h hB => ⟨h.1.keep hB, h.2.1.keep hB, h.2.2.1.keep hB, h.2.2.2.trans (hB.mono h.2.2.2.size)⟩)
  obtain ⟨hp, hq, hr, ⟨rfl, rfl, hT, hV⟩ | ⟨rfl, rfl, her, hno⟩⟩ := K4.out.2.2.1
  · have HT := Lib.hid hT
    have HV := Lib.hid hV
    clear hV hT
    go_wp2_with (first | (refine wpList_store_row rfl _ _ _ rfl _ #[.int .u64 (p : Int), .int .u64 (q : Int), .int .u64 (r : Int)] rfl rfl _ _ (H6.out) size_w3 rfl (one3 _ _ _) ?_; generalize hW4 : (w3.alloc (.cells #[.int .u64 0, .int .u64 0, .int .u64 0] 28)).setRow w3.heap.size #[.int .u64 (p : Int), .int .u64 (q : Int), .int .u64 (r : Int)] = w4 at *) | (refine wpList_load_row rfl _ _ rfl _ rfl _ _ _ _ (K4.out.1) Tryz.underlying29 rfl size_three ?_))
    refine (tsplit_yes HV.out HT.out x hx).mono ?_
    rintro e w5 ⟨rfl, hB5⟩
    have K5 := Lib.hid (KP.out _ _ K4.out hB5)
    have HV5 := Lib.hid ((HV.out.below hB5).mono hB5.size)
    clear hB5
    go_wp2_with fail
    refine (tjoin_yes HV5.out HT.out (x % p) (x % q) (x % r) (by have := Nat.mod_lt x (show 0 < p by have := HT.out.p3; omega); omega) (by have := Nat.mod_lt x (show 0 < q by have := HT.out.q3; omega); omega) (by have := Nat.mod_lt x (show 0 < r by have := HT.out.r3; omega); omega)).mono ?_
    rintro e w6 ⟨j, rfl, j0, j1, j2, j3, hB6⟩
    have K6 := Lib.hid (KP.out _ _ K5.out hB6)
    have HV6 := Lib.hid ((HV5.out.below hB6).mono hB6.size)
    have H9 := Lib.hid (RowAt.new w6 29 #[.int .u64 0, .int .u64 0, .int .u64 0])
    have hne1 : w.heap.size + 1 ≠ w6.heap.size := by have := K6.out.1.lt; omega
    have hne2 : w3.heap.size ≠ w6.heap.size := by have := K6.out.2.1.lt; omega
    have hsz6 := hB6.size
    have hsz0 := K6.out.2.2.2.size
    have R8 : Hid (RowAt ((w6.alloc (.cells #[.int .u64 0, .int .u64 0, .int .u64 0] 29)).setRow w6.heap.size (three j)) (w.heap.size + 1) 29 (three x) ∧ RowAt ((w6.alloc (.cells #[.int .u64 0, .int .u64 0, .int .u64 0] 29)).setRow w6.heap.size (three j)) w3.heap.size 28 #[.int .u64 (p : Int), .int .u64 (q : Int), .int .u64 (r : Int)] ∧ RowAt ((w6.alloc (.cells #[.int .u64 0, .int .u64 0, .int .u64 0] 29)).setRow w6.heap.size (three j)) w6.heap.size 29 (three j) ∧ TrioP ((w6.alloc (.cells #[.int .u64 0, .int .u64 0, .int .u64 0] 29)).setRow w6.heap.size (three j)) ((w6.alloc (.cells #[.int .u64 0, .int .u64 0, .int .u64 0] 29)).setRow w6.heap.size (three j)).heap.size v p q r ∧ Below w.heap.size w ((w6.alloc (.cells #[.int .u64 0, .int .u64 0, .int .u64 0] 29)).setRow w6.heap.size (three j))) := Lib.hid ⟨(K6.out.1.alloc _).setRowOther _ _ hne1, (K6.out.2.1.alloc _).setRowOther _ _ hne2, H9.out.setRow _, by
      rw [size_setRow]
      exact TrioP.setRow (m := 0) ((HV6.out.below ((Below.refl w6.heap.size w6).alloc (Nat.le_refl _) _)).mono (by simp)) H9.out _, below_setRow (K6.out.2.2.2.alloc hsz0 _) hsz0 _⟩
    have RP : Hid (∀ W W', (RowAt W (w.heap.size + 1) 29 (three x) ∧ RowAt W w3.heap.size 28 #[.int .u64 (p : Int), .int .u64 (q : Int), .int .u64 (r : Int)] ∧ RowAt W w6.heap.size 29 (three j) ∧ TrioP W W.heap.size v p q r ∧ Below w.heap.size w W) → Below W.heap.size W W' → (RowAt W' (w.heap.size + 1) 29 (three x) ∧ RowAt W' w3.heap.size 28 #[.int .u64 (p : Int), .int .u64 (q : Int), .int .u64 (r : Int)] ∧ RowAt W' w6.heap.size 29 (three j) ∧ TrioP W' W'.heap.size v p q r ∧ Below w.heap.size w W')) := Lib.hid (fun W W' h hB => ⟨h.1.keep hB, h.2.1.keep hB, h.2.2.1.keep hB, (h.2.2.2.1.below hB).mono hB.size, h.2.2.2.2.trans (hB.mono h.2.2.2.2.size)⟩)
    have HBi : Hid (∀ W, Calls Tryz.prog 17 #[.agg (three x)] W fun e w' => e = .returned (.agg (bcells x)) ∧ Below W.heap.size W w') := Lib.hid (fun W => bits23_any x hx W)
    have HPd : Hid (∀ W, Calls Tryz.prog 18 #[.agg #[.int .u64 (p : Int), .int .u64 (q : Int), .int .u64 (r : Int)]] W fun e w' => e = .returned (.agg (bcells (p * q * r))) ∧ Below W.heap.size W w') := Lib.hid (fun W => product23_any p q r (by omega) (by omega) (by omega) W)
    obtain ⟨n0, n1⟩ := HT.out.lt
    have HLs : Hid (∀ W, Calls Tryz.prog 19 #[.agg (bcells x), .agg (bcells (p * q * r))] W fun e w' => e = .returned (.bool (decide (x < p * q * r))) ∧ Below W.heap.size W w') := Lib.hid (fun W => r1less_any x (p * q * r) (by omega) (by omega) W)
    have hcrt := HT.out.crt (x := j) (y := x) (by rw [j1, Nat.mod_mod]) (by rw [j2, Nat.mod_mod]) (by rw [j3, Nat.mod_mod])
    have HSp : Hid (w3n (j % p) (j % q) (j % r) = w3n (x % p) (x % q) (x % r)) := Lib.hid (by rw [j1, j2, j3, Nat.mod_mod, Nat.mod_mod, Nat.mod_mod])
    have HSj : Hid (∀ W, TrioP W W.heap.size v p q r → Calls Tryz.prog 26 #[v, .agg (three j)] W fun e w' => e = .returned (.agg (three (w3n (x % p) (x % q) (x % r)))) ∧ Below W.heap.size W w') := Lib.hid (fun W h => by
      rw [← HSp.out]; exact tsplit_yes h HT.out j (by omega))
    have HSx : Hid (∀ W, TrioP W W.heap.size v p q r → Calls Tryz.prog 26 #[v, .agg (three x)] W fun e w' => e = .returned (.agg (three (w3n (x % p) (x % q) (x % r)))) ∧ Below W.heap.size W w') := Lib.hid (fun W h => tsplit_yes h HT.out x hx)
    have hxp := Nat.mod_lt x (show 0 < p by have := HT.out.p3; omega)
    have hxq := Nat.mod_lt x (show 0 < q by have := HT.out.q3; omega)
    have hxr := Nat.mod_lt x (show 0 < r by have := HT.out.r3; omega)
    have hmb := w3n_lt (a := x % p) (b := x % q) (c := x % r) (by omega) (by omega) (by omega)
    obtain ⟨m, hm⟩ : ∃ m, m = w3n (x % p) (x % q) (x % r) := ⟨_, rfl⟩
    rw [← hm] at HSj HSx hmb
    have qw := eqn_words m m hmb hmb
    rw [decide_eq_true (rfl : m = m)] at qw
    have hj : j < 6277101735386680763835789423207666416102355444464034512896 := by omega
    obtain ⟨N, hN⟩ : ∃ N, N = p * q * r := ⟨_, rfl⟩
    rw [← hN] at HPd HLs j0 n0 n1 hcrt
    rw [Nat.mod_eq_of_lt j0] at hcrt
    have HCR := Lib.hid hcrt
    clear hxp hxq hxr hm HSp K5 K4 hN j1 j2 j3 hB6 HV HV5 hcrt
    by_cases hlt : x < N
    · rw [decide_eq_true hlt] at HLs
      have qx := eqn_three j x hj hx
      rw [decide_eq_true (show j = x by rw [HCR.out, Nat.mod_eq_of_lt hlt])] at qx
      clear hlt
      go_wp2_with (refine wpList_store_row rfl _ _ _ rfl _ _ rfl rfl _ _ (H9.out) size_three rfl (three_one _) ?_)
      have R8d : Hid (RowAt (((w6.alloc (.cells #[.int .u64 0, .int .u64 0, .int .u64 0] 29)).setRow w6.heap.size (three j)).drewN 1) (w.heap.size + 1) 29 (three x) ∧ RowAt (((w6.alloc (.cells #[.int .u64 0, .int .u64 0, .int .u64 0] 29)).setRow w6.heap.size (three j)).drewN 1) w3.heap.size 28 #[.int .u64 (p : Int), .int .u64 (q : Int), .int .u64 (r : Int)] ∧ RowAt (((w6.alloc (.cells #[.int .u64 0, .int .u64 0, .int .u64 0] 29)).setRow w6.heap.size (three j)).drewN 1) w6.heap.size 29 (three j) ∧ TrioP (((w6.alloc (.cells #[.int .u64 0, .int .u64 0, .int .u64 0] 29)).setRow w6.heap.size (three j)).drewN 1) (((w6.alloc (.cells #[.int .u64 0, .int .u64 0, .int .u64 0] 29)).setRow w6.heap.size (three j)).drewN 1).heap.size v p q r ∧ Below w.heap.size w (((w6.alloc (.cells #[.int .u64 0, .int .u64 0, .int .u64 0] 29)).setRow w6.heap.size (three j)).drewN 1)) := Lib.hid ⟨R8.out.1, R8.out.2.1, R8.out.2.2.1, R8.out.2.2.2.1.below (below_drewN (Below.refl _ _) 1), below_drewN R8.out.2.2.2.2 1⟩
      generalize (w6.alloc (.cells #[.int .u64 0, .int .u64 0, .int .u64 0] 29)).setRow w6.heap.size (three j) = w7 at *
      try simp only [Act.put]
      change (Code.region _ _ true).wp _ _ _ _
      refine wp_region_held_drew (S := fun wz => RowAt wz (w.heap.size + 1) 29 (three x) ∧ RowAt wz w3.heap.size 28 #[.int .u64 (p : Int), .int .u64 (q : Int), .int .u64 (r : Int)] ∧ RowAt wz w6.heap.size 29 (three j)) (by kernel_rfl) (⟨R8d.out.1, R8d.out.2.1, R8d.out.2.2.1⟩) (fun hHeld => ?_)
      refine wpAnyH_take (i := 0) rfl (by kernel_rfl) (by kernel_rfl) (by kernel_rfl) (fun _ _ _ h => h) (yieldsIf_load_row (by rfl) _ _ rfl _ rfl _ _ _ (fun wz h => h.1) Tryz.underlying29 rfl size_three) (by assumption) ?_
      try simp only [Act.put, List.getElem_toArray, List.getElem_cons_zero, List.getElem_cons_succ, List.setIfInBounds_toArray, List.set_cons_zero, List.set_cons_succ]
      refine wpAnyH_take (i := 2) rfl (by kernel_rfl) (by kernel_rfl) (by kernel_rfl) (fun _ _ _ h => h) (yieldsIf_load_row (by rfl) _ _ rfl _ rfl _ _ _ (fun wz h => h.2.1) Tryz.underlying28 rfl size_w3) (by assumption) ?_
      try simp only [Act.put, List.getElem_toArray, List.getElem_cons_zero, List.getElem_cons_succ, List.setIfInBounds_toArray, List.set_cons_zero, List.set_cons_succ]
      refine wpAnyH_ready (rs := [1]) (by kernel_rfl) (by simp) ?_
      refine AllReadyH.cons rfl (fun K hK => ?_) AllReadyH.nil
      try simp only [List.getElem_toArray, List.getElem_cons_zero, List.getElem_cons_succ]
      rw [if_pos (by rfl)]
      go_wp2_with (go_at_call 17; refine (HBi.out _).mono ?_; rintro e y1 ⟨rfl, hY1⟩)
      have z1 := Lib.hid (RP.out _ _ R8d.out hY1)
      clear hY1
      refine hK.out _ _ (⟨z1.out.1, z1.out.2.1, z1.out.2.2.1⟩) (fun _ => ?_)
      clear hK K
      try simp only [Act.put, List.getElem_toArray, List.getElem_cons_zero, List.getElem_cons_succ, List.setIfInBounds_toArray, List.set_cons_zero, List.set_cons_succ]
      refine wpAnyH_ready (rs := [3]) (by kernel_rfl) (by simp) ?_
      refine AllReadyH.cons rfl (fun K hK => ?_) AllReadyH.nil
      try simp only [List.getElem_toArray, List.getElem_cons_zero, List.getElem_cons_succ]
      rw [if_pos (by rfl)]
      go_wp2_with (go_at_call 18; refine (HPd.out _).mono ?_; rintro e y3 ⟨rfl, hY3⟩)
      have z3 := Lib.hid (RP.out _ _ z1.out hY3)
      clear hY3
      refine hK.out _ _ (⟨z3.out.1, z3.out.2.1, z3.out.2.2.1⟩) (fun _ => ?_)
      clear hK K
      try simp only [Act.put, List.getElem_toArray, List.getElem_cons_zero, List.getElem_cons_succ, List.setIfInBounds_toArray, List.set_cons_zero, List.set_cons_succ]
      refine wpAnyH_ready (rs := [4]) (by kernel_rfl) (by simp) ?_
      refine AllReadyH.cons rfl (fun K hK => ?_) AllReadyH.nil
      try simp only [List.getElem_toArray, List.getElem_cons_zero, List.getElem_cons_succ]
      rw [if_pos (by rfl)]
      go_wp2_with (go_at_call 19; refine (HLs.out _).mono ?_; rintro e y4 ⟨rfl, hY4⟩)
      have z4 := Lib.hid (RP.out _ _ z3.out hY4)
      clear hY4
      refine hK.out _ _ (⟨z4.out.1, z4.out.2.1, z4.out.2.2.1⟩) (fun _ => ?_)
      clear hK K
      try simp only [Act.put, List.getElem_toArray, List.getElem_cons_zero, List.getElem_cons_succ, List.setIfInBounds_toArray, List.set_cons_zero, List.set_cons_succ]
      refine wpAnyH_done (by kernel_rfl) ?_ _
      go_wp2_with (first | (refine wpList_load_row rfl _ _ rfl _ rfl _ _ _ _ (z4.out.1) Tryz.underlying29 rfl size_three ?_) | (refine wpList_load_row rfl _ _ rfl _ rfl _ _ _ _ (z4.out.2.2.1) Tryz.underlying29 rfl size_three ?_))
      go_ret
      exact ⟨rfl, z4.out.2.2.2.2⟩
    · rw [decide_eq_false hlt] at HLs
      have qx := eqn_three j x hj hx
      rw [decide_eq_false (show j ≠ x by omega)] at qx
      clear hlt
      go_wp2_with (refine wpList_store_row rfl _ _ _ rfl _ _ rfl rfl _ _ (H9.out) size_three rfl (three_one _) ?_)
      have R8d : Hid (RowAt (((w6.alloc (.cells #[.int .u64 0, .int .u64 0, .int .u64 0] 29)).setRow w6.heap.size (three j)).drewN 1) (w.heap.size + 1) 29 (three x) ∧ RowAt (((w6.alloc (.cells #[.int .u64 0, .int .u64 0, .int .u64 0] 29)).setRow w6.heap.size (three j)).drewN 1) w3.heap.size 28 #[.int .u64 (p : Int), .int .u64 (q : Int), .int .u64 (r : Int)] ∧ RowAt (((w6.alloc (.cells #[.int .u64 0, .int .u64 0, .int .u64 0] 29)).setRow w6.heap.size (three j)).drewN 1) w6.heap.size 29 (three j) ∧ TrioP (((w6.alloc (.cells #[.int .u64 0, .int .u64 0, .int .u64 0] 29)).setRow w6.heap.size (three j)).drewN 1) (((w6.alloc (.cells #[.int .u64 0, .int .u64 0, .int .u64 0] 29)).setRow w6.heap.size (three j)).drewN 1).heap.size v p q r ∧ Below w.heap.size w (((w6.alloc (.cells #[.int .u64 0, .int .u64 0, .int .u64 0] 29)).setRow w6.heap.size (three j)).drewN 1)) := Lib.hid ⟨R8.out.1, R8.out.2.1, R8.out.2.2.1, R8.out.2.2.2.1.below (below_drewN (Below.refl _ _) 1), below_drewN R8.out.2.2.2.2 1⟩
      generalize (w6.alloc (.cells #[.int .u64 0, .int .u64 0, .int .u64 0] 29)).setRow w6.heap.size (three j) = w7 at *
      try simp only [Act.put]
      change (Code.region _ _ true).wp _ _ _ _
      refine wp_region_held_drew (S := fun wz => RowAt wz (w.heap.size + 1) 29 (three x) ∧ RowAt wz w3.heap.size 28 #[.int .u64 (p : Int), .int .u64 (q : Int), .int .u64 (r : Int)] ∧ RowAt wz w6.heap.size 29 (three j)) (by kernel_rfl) (⟨R8d.out.1, R8d.out.2.1, R8d.out.2.2.1⟩) (fun hHeld => ?_)
      refine wpAnyH_take (i := 0) rfl (by kernel_rfl) (by kernel_rfl) (by kernel_rfl) (fun _ _ _ h => h) (yieldsIf_load_row (by rfl) _ _ rfl _ rfl _ _ _ (fun wz h => h.1) Tryz.underlying29 rfl size_three) (by assumption) ?_
      try simp only [Act.put, List.getElem_toArray, List.getElem_cons_zero, List.getElem_cons_succ, List.setIfInBounds_toArray, List.set_cons_zero, List.set_cons_succ]
      refine wpAnyH_take (i := 2) rfl (by kernel_rfl) (by kernel_rfl) (by kernel_rfl) (fun _ _ _ h => h) (yieldsIf_load_row (by rfl) _ _ rfl _ rfl _ _ _ (fun wz h => h.2.1) Tryz.underlying28 rfl size_w3) (by assumption) ?_
      try simp only [Act.put, List.getElem_toArray, List.getElem_cons_zero, List.getElem_cons_succ, List.setIfInBounds_toArray, List.set_cons_zero, List.set_cons_succ]
      refine wpAnyH_ready (rs := [1]) (by kernel_rfl) (by simp) ?_
      refine AllReadyH.cons rfl (fun K hK => ?_) AllReadyH.nil
      try simp only [List.getElem_toArray, List.getElem_cons_zero, List.getElem_cons_succ]
      rw [if_pos (by rfl)]
      go_wp2_with (go_at_call 17; refine (HBi.out _).mono ?_; rintro e y1 ⟨rfl, hY1⟩)
      have z1 := Lib.hid (RP.out _ _ R8d.out hY1)
      clear hY1
      refine hK.out _ _ (⟨z1.out.1, z1.out.2.1, z1.out.2.2.1⟩) (fun _ => ?_)
      clear hK K
      try simp only [Act.put, List.getElem_toArray, List.getElem_cons_zero, List.getElem_cons_succ, List.setIfInBounds_toArray, List.set_cons_zero, List.set_cons_succ]
      refine wpAnyH_ready (rs := [3]) (by kernel_rfl) (by simp) ?_
      refine AllReadyH.cons rfl (fun K hK => ?_) AllReadyH.nil
      try simp only [List.getElem_toArray, List.getElem_cons_zero, List.getElem_cons_succ]
      rw [if_pos (by rfl)]
      go_wp2_with (go_at_call 18; refine (HPd.out _).mono ?_; rintro e y3 ⟨rfl, hY3⟩)
      have z3 := Lib.hid (RP.out _ _ z1.out hY3)
      clear hY3
      refine hK.out _ _ (⟨z3.out.1, z3.out.2.1, z3.out.2.2.1⟩) (fun _ => ?_)
      clear hK K
      try simp only [Act.put, List.getElem_toArray, List.getElem_cons_zero, List.getElem_cons_succ, List.setIfInBounds_toArray, List.set_cons_zero, List.set_cons_succ]
      refine wpAnyH_ready (rs := [4]) (by kernel_rfl) (by simp) ?_
      refine AllReadyH.cons rfl (fun K hK => ?_) AllReadyH.nil
      try simp only [List.getElem_toArray, List.getElem_cons_zero, List.getElem_cons_succ]
      rw [if_pos (by rfl)]
      go_wp2_with (go_at_call 19; refine (HLs.out _).mono ?_; rintro e y4 ⟨rfl, hY4⟩)
      have z4 := Lib.hid (RP.out _ _ z3.out hY4)
      clear hY4
      refine hK.out _ _ (⟨z4.out.1, z4.out.2.1, z4.out.2.2.1⟩) (fun _ => ?_)
      clear hK K
      try simp only [Act.put, List.getElem_toArray, List.getElem_cons_zero, List.getElem_cons_succ, List.setIfInBounds_toArray, List.set_cons_zero, List.set_cons_succ]
      refine wpAnyH_done (by kernel_rfl) ?_ _
      go_wp2_with fail
      change (Code.region _ _ true).wp _ _ _ _
      have Z4 : Hid (RowAt (y4.drewN 1) (w.heap.size + 1) 29 (three x) ∧ RowAt (y4.drewN 1) w3.heap.size 28 #[.int .u64 (p : Int), .int .u64 (q : Int), .int .u64 (r : Int)] ∧ RowAt (y4.drewN 1) w6.heap.size 29 (three j) ∧ TrioP (y4.drewN 1) (y4.drewN 1).heap.size v p q r ∧ Below w.heap.size w (y4.drewN 1)) := Lib.hid ⟨z4.out.1, z4.out.2.1, z4.out.2.2.1, (z4.out.2.2.2.1.below (below_drewN (Below.refl _ _) 1)), below_drewN z4.out.2.2.2.2 1⟩
      refine wp_region_held_drew (S := fun wz => RowAt wz (w.heap.size + 1) 29 (three x) ∧ RowAt wz w3.heap.size 28 #[.int .u64 (p : Int), .int .u64 (q : Int), .int .u64 (r : Int)] ∧ RowAt wz w6.heap.size 29 (three j)) (by kernel_rfl) (⟨Z4.out.1, Z4.out.2.1, Z4.out.2.2.1⟩) (fun hHeld => ?_)
      refine wpAnyH_take (i := 0) (v := ?_) rfl (by kernel_rfl) (by kernel_rfl) (by kernel_rfl) (fun _ _ _ h => h) (Or.inl ⟨by rfl, ?_⟩) (by assumption) ?_
      rotate_left
      · intro w hSw; (try dsimp only at hSw); go_simp; try with_reducible rfl
      try simp only [Act.put, List.getElem_toArray, List.getElem_cons_zero, List.getElem_cons_succ, List.setIfInBounds_toArray, List.set_cons_zero, List.set_cons_succ]
      refine wpAnyH_take (i := 1) rfl (by kernel_rfl) (by kernel_rfl) (by kernel_rfl) (fun _ _ _ h => h) (yieldsIf_load_row (by rfl) _ _ rfl _ rfl _ _ _ (fun wz h => h.2.2) Tryz.underlying29 rfl size_three) (by assumption) ?_
      try simp only [Act.put, List.getElem_toArray, List.getElem_cons_zero, List.getElem_cons_succ, List.setIfInBounds_toArray, List.set_cons_zero, List.set_cons_succ]
      refine wpAnyH_take (i := 3) (v := ?_) rfl (by kernel_rfl) (by kernel_rfl) (by kernel_rfl) (fun _ _ _ h => h) (Or.inl ⟨by rfl, ?_⟩) (by assumption) ?_
      rotate_left
      · intro w hSw; (try dsimp only at hSw); go_simp; try with_reducible rfl
      try simp only [Act.put, List.getElem_toArray, List.getElem_cons_zero, List.getElem_cons_succ, List.setIfInBounds_toArray, List.set_cons_zero, List.set_cons_succ]
      refine wpAnyH_take (i := 4) rfl (by kernel_rfl) (by kernel_rfl) (by kernel_rfl) (fun _ _ _ h => h) (yieldsIf_load_row (by rfl) _ _ rfl _ rfl _ _ _ (fun wz h => h.1) Tryz.underlying29 rfl size_three) (by assumption) ?_
      try simp only [Act.put, List.getElem_toArray, List.getElem_cons_zero, List.getElem_cons_succ, List.setIfInBounds_toArray, List.set_cons_zero, List.set_cons_succ]
      refine wpAnyH_ready (rs := [2]) (by kernel_rfl) (by simp) ?_
      refine AllReadyH.cons rfl (fun K hK => ?_) AllReadyH.nil
      try simp only [List.getElem_toArray, List.getElem_cons_zero, List.getElem_cons_succ]
      rw [if_pos (by rfl)]
      go_wp2_with (go_at_call 26; refine (HSj.out _ Z4.out.2.2.2.1).mono ?_; rintro e y2 ⟨rfl, hY2⟩)
      have z2 := Lib.hid (RP.out _ _ Z4.out hY2)
      clear hY2
      refine hK.out _ _ (⟨z2.out.1, z2.out.2.1, z2.out.2.2.1⟩) (fun _ => ?_)
      clear hK K
      try simp only [Act.put, List.getElem_toArray, List.getElem_cons_zero, List.getElem_cons_succ, List.setIfInBounds_toArray, List.set_cons_zero, List.set_cons_succ]
      refine wpAnyH_ready (rs := [5]) (by kernel_rfl) (by simp) ?_
      refine AllReadyH.cons rfl (fun K hK => ?_) AllReadyH.nil
      try simp only [List.getElem_toArray, List.getElem_cons_zero, List.getElem_cons_succ]
      rw [if_pos (by rfl)]
      go_wp2_with (go_at_call 26; refine (HSx.out _ z2.out.2.2.2.1).mono ?_; rintro e y5 ⟨rfl, hY5⟩)
      have z5 := Lib.hid (RP.out _ _ z2.out hY5)
      clear hY5
      refine hK.out _ _ (⟨z5.out.1, z5.out.2.1, z5.out.2.2.1⟩) (fun _ => ?_)
      clear hK K
      try simp only [Act.put, List.getElem_toArray, List.getElem_cons_zero, List.getElem_cons_succ, List.setIfInBounds_toArray, List.set_cons_zero, List.set_cons_succ]
      refine wpAnyH_take (i := 6) (v := ?_) rfl (by kernel_rfl) (by kernel_rfl) (by kernel_rfl) (fun _ _ _ h => h) (Or.inl ⟨by rfl, ?_⟩) ⟨z5.out.1, z5.out.2.1, z5.out.2.2.1⟩ ?_
      rotate_left
      · intro w hSw; (try dsimp only at hSw); go_simp; try with_reducible rfl
      try simp only [Act.put, List.getElem_toArray, List.getElem_cons_zero, List.getElem_cons_succ, List.setIfInBounds_toArray, List.set_cons_zero, List.set_cons_succ]
      refine wpAnyH_take (i := 7) (v := ?_) rfl (by kernel_rfl) (by kernel_rfl) (by kernel_rfl) (fun _ _ _ h => h) (Or.inl ⟨by rfl, ?_⟩) ⟨z5.out.1, z5.out.2.1, z5.out.2.2.1⟩ ?_
      rotate_left
      · intro w hSw; (try dsimp only at hSw); go_simp; try with_reducible rfl
      try simp only [Act.put, List.getElem_toArray, List.getElem_cons_zero, List.getElem_cons_succ, List.setIfInBounds_toArray, List.set_cons_zero, List.set_cons_succ]
      refine wpAnyH_take (i := 8) rfl (by kernel_rfl) (by kernel_rfl) (by kernel_rfl) (fun _ _ _ h => h) (yieldsIf_load_row (by rfl) _ _ rfl _ rfl _ _ _ (fun wz h => h.2.2) Tryz.underlying29 rfl size_three) ⟨z5.out.1, z5.out.2.1, z5.out.2.2.1⟩ ?_
      try simp only [Act.put, List.getElem_toArray, List.getElem_cons_zero, List.getElem_cons_succ, List.setIfInBounds_toArray, List.set_cons_zero, List.set_cons_succ]
      refine wpAnyH_take (i := 9) rfl (by kernel_rfl) (by kernel_rfl) (by kernel_rfl) (fun _ _ _ h => h) (yieldsIf_load_row (by rfl) _ _ rfl _ rfl _ _ _ (fun wz h => h.1) Tryz.underlying29 rfl size_three) ⟨z5.out.1, z5.out.2.1, z5.out.2.2.1⟩ ?_
      try simp only [Act.put, List.getElem_toArray, List.getElem_cons_zero, List.getElem_cons_succ, List.setIfInBounds_toArray, List.set_cons_zero, List.set_cons_succ]
      refine wpAnyH_take (i := 10) (v := ?_) rfl (by kernel_rfl) (by kernel_rfl) (by kernel_rfl) (fun _ _ _ h => h) (Or.inl ⟨by rfl, ?_⟩) ⟨z5.out.1, z5.out.2.1, z5.out.2.2.1⟩ ?_
      rotate_left
      · intro w hSw; (try dsimp only at hSw); go_simp; try with_reducible rfl
      try simp only [Act.put, List.getElem_toArray, List.getElem_cons_zero, List.getElem_cons_succ, List.setIfInBounds_toArray, List.set_cons_zero, List.set_cons_succ]
      refine wpAnyH_take (i := 11) (v := ?_) rfl (by kernel_rfl) (by kernel_rfl) (by kernel_rfl) (fun _ _ _ h => h) (Or.inl ⟨by rfl, ?_⟩) ⟨z5.out.1, z5.out.2.1, z5.out.2.2.1⟩ ?_
      rotate_left
      · intro w hSw; (try dsimp only at hSw); go_simp; try with_reducible rfl
      try simp only [Act.put, List.getElem_toArray, List.getElem_cons_zero, List.getElem_cons_succ, List.setIfInBounds_toArray, List.set_cons_zero, List.set_cons_succ]
      refine wpAnyH_ready (rs := [12]) (by kernel_rfl) (by simp) ?_
      refine AllReadyH.cons rfl (fun K hK => ?_) AllReadyH.nil
      try simp only [List.getElem_toArray, List.getElem_cons_zero, List.getElem_cons_succ]
      rw [if_pos (by rfl)]
      go_wp2_with fail
      refine hK.out _ _ (⟨z5.out.1, z5.out.2.1, z5.out.2.2.1⟩) (fun _ => ?_)
      clear hK K
      try simp only [Act.put, List.getElem_toArray, List.getElem_cons_zero, List.getElem_cons_succ, List.setIfInBounds_toArray, List.set_cons_zero, List.set_cons_succ]
      refine wpAnyH_done (by kernel_rfl) ?_ _
      go_wp2
      go_ret
      exact ⟨rfl, z5.out.2.2.2.2⟩
  · have HB4 := Lib.hid K4.out.2.2.2
    clear K4 KP her hno
    go_wp2_with (refine wpList_store_row rfl _ _ _ rfl _ #[.int .u64 (p : Int), .int .u64 (q : Int), .int .u64 (r : Int)] rfl rfl _ _ (H6.out) size_w3 rfl (one3 _ _ _) ?_)
    go_ret
    exact ⟨rfl, HB4.out⟩
end Go.Proofs.YtjjfiidgjiekpaaGreat
