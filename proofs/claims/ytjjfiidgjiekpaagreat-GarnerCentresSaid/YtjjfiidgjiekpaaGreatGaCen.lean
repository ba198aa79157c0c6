/- The law GarnerCentres. -/
import Derived.Test.YtjjfiidgjiekpaaGreatGaCenM
set_option linter.unusedVariables false
set_option linter.unusedSimpArgs false
set_option linter.unusedSectionVars false
set_option linter.unusedVariables false
set_option linter.unusedSimpArgs false
namespace Go.Proofs.YtjjfiidgjiekpaaGreat
open Go.RowKit
open Alg (Prime)
theorem TrioP.setCell {w : World} {v : Value} {p q r : Nat} (h : TrioP w w.heap.size v p q r) {N m : Nat} {t : TypeId} (hN : RowAt w N t (three m)) (i : Nat) (u : Value) : TrioP (w.setCell ⟨N, i, none⟩ u) (w.setCell ⟨N, i, none⟩ u).heap.size v p q r := by
  rw [setCell_eq_setRow w N i (three m) t (0, 0) u hN, size_setRow]
  exact h.setRow hN _
theorem three_cells (n i u : Nat) (hi : i < 3) (hu : u < 18446744073709551616) : ∃ m, (three n).setIfInBounds i (.int .u64 (u : Int)) = three m := by
  rw [three_wd n]
  match i, hi with
  | 0, _ => exact ⟨w3n u (wd n 1) (wd n 2), by rw [three_w3n hu (wd_lt n 1) (wd_lt n 2)]; rfl⟩
  | 1, _ => exact ⟨w3n (wd n 0) u (wd n 2), by rw [three_w3n (wd_lt n 0) hu (wd_lt n 2)]; rfl⟩
  | 2, _ => exact ⟨w3n (wd n 0) (wd n 1) u, by rw [three_w3n (wd_lt n 0) (wd_lt n 1) hu]; rfl⟩
set_option maxHeartbeats 8000000 in
set_option maxRecDepth 100000 in
theorem garnerCentres_walk (w : World) (Aa : Option Addr) (ca : Nat) (kinda kka ppa : Int) (esa : List Ent) (Ab : Option Addr) (cb : Nat) (kindb kkb ppb : Int) (esb : List Ent) (Ac : Option Addr) (cc : Nat) (kindc kkc ppc : Int) (esc : List Ent) (x : Nat) (n : Int) (hsa : SrcA w Aa ca kinda kka ppa esa) (hsb : SrcA w Ab cb kindb kkb ppb esb) (hsc : SrcA w Ac cc kindc kkc ppc esc) (hx : x < 6277101735386680763835789423207666416102355444464034512896) (hn0 : -9223372036854775808 ≤ n) (hn1 : n ≤ 9223372036854775807) :
    Calls Tryz.prog 3 #[.agg #[.int .i64 kinda, .int .i64 kka, .int .u64 ppa, .slice Aa esa.length ca, .int .i64 kindb, .int .i64 kkb, .int .u64 ppb, .slice Ab esb.length cb, .int .i64 kindc, .int .i64 kkc, .int .u64 ppc, .slice Ac esc.length cc], .agg (three x), .int .i64 n] w fun e w' => e = .returned (.bool true) ∧ Below w.heap.size w w' := by
  have R0 := Lib.hid (lay2 w 27 29 #[.int .i64 kinda, .int .i64 kka, .int .u64 ppa, .slice Aa esa.length ca, .int .i64 kindb, .int .i64 kkb, .int .u64 ppb, .slice Ab esb.length cb, .int .i64 kindc, .int .i64 kkc, .int .u64 ppc, .slice Ac esc.length cc] (three x))
  have HSa := Lib.hid hsa
  have HSb := Lib.hid hsb
  have HSc := Lib.hid hsc
  have hz : ∀ w, (zeroValue 29).run Tryz.prog w = .ok (.agg #[.int .u64 0, .int .u64 0, .int .u64 0]) w := (zero_of_info info_three).1
  have hz3 : ∀ w, (zeroValue 28).run Tryz.prog w = .ok (.agg #[.int .u64 0, .int .u64 0, .int .u64 0]) w := (zero_of_info info_w3).1
  clear hsa hsb hsc
  go_enter Tryz.func3, Tryz.ntmps3
  go_wp2_with fail
  generalize ((w.alloc (.cells #[.int .i64 kinda, .int .i64 kka, .int .u64 ppa, .slice Aa esa.length ca, .int .i64 kindb, .int .i64 kkb, .int .u64 ppb, .slice Ab esb.length cb, .int .i64 kindc, .int .i64 kkc, .int .u64 ppc, .slice Ac esc.length cc] 27)).alloc (.cells (three x) 29)) = w1 at *
  refine (alive23_any w1).mono ?_
  rintro e w2 ⟨rfl, hB2⟩
  have R2 : Hid (RowAt w2 w.heap.size 27 #[.int .i64 kinda, .int .i64 kka, .int .u64 ppa, .slice Aa esa.length ca, .int .i64 kindb, .int .i64 kkb, .int .u64 ppb, .slice Ab esb.length cb, .int .i64 kindc, .int .i64 kkc, .int .u64 ppc, .slice Ac esc.length cc] ∧ RowAt w2 (w.heap.size + 1) 29 (three x) ∧ Below w.heap.size w w2) := Lib.hid ⟨R0.out.1.keep hB2, R0.out.2.1.keep hB2, R0.out.2.2.trans (hB2.mono R0.out.2.2.size)⟩
  clear hB2 R0
  go_wp2_with (refine wpList_load_row rfl _ _ rfl _ rfl _ _ _ _ (R2.out.1) Tryz.underlying27 rfl (by exact size_threes) ?_)
  refine (trio_any w2 Aa ca kinda kka ppa esa Ab cb kindb kkb ppb esb Ac cc kindc kkc ppc esc (HSa.out.below R2.out.2.2) (HSb.out.below R2.out.2.2) (HSc.out.below R2.out.2.2)).mono ?_
  rintro e w3 ⟨v, p, q, r, er, ok, rfl, hTR, hB3⟩
  have hw3 : ∀ k, w.heap.size + k < w2.heap.size → w.heap.size + k ≠ w3.heap.size := fun k hk => by have := hB3.size; omega
  have hl0 := R2.out.2.1.lt
  have hl1 := R2.out.2.2.size
  have hl2 := hB3.size
  have H6 := Lib.hid (RowAt.new w3 28 #[.int .u64 0, .int .u64 0, .int .u64 0])
  have hTR4 : TR (w3.alloc (.cells #[.int .u64 0, .int .u64 0, .int .u64 0] 28)) v p q r er ok := hTR.keep ((Below.refl w3.heap.size w3).alloc (Nat.le_refl _) _)
  have K4 : Hid (RowAt ((w3.alloc (.cells #[.int .u64 0, .int .u64 0, .int .u64 0] 28)).setRow w3.heap.size #[.int .u64 (p : Int), .int .u64 (q : Int), .int .u64 (r : Int)]) (w.heap.size + 1) 29 (three x) ∧ RowAt ((w3.alloc (.cells #[.int .u64 0, .int .u64 0, .int .u64 0] 28)).setRow w3.heap.size #[.int .u64 (p : Int), .int .u64 (q : Int), .int .u64 (r : Int)]) w3.heap.size 28 #[.int .u64 (p : Int), .int .u64 (q : Int), .int .u64 (r : Int)] ∧ TR ((w3.alloc (.cells #[.int .u64 0, .int .u64 0, .int .u64 0] 28)).setRow w3.heap.size #[.int .u64 (p : Int), .int .u64 (q : Int), .int .u64 (r : Int)]) v p q r er ok ∧ Below w.heap.size w ((w3.alloc (.cells #[.int .u64 0, .int .u64 0, .int .u64 0] 28)).setRow w3.heap.size #[.int .u64 (p : Int), .int .u64 (q : Int), .int .u64 (r : Int)])) := Lib.hid ⟨((R2.out.2.1.keep hB3).alloc _).setRowOther _ _ (by omega), H6.out.setRow _, hTR4.setRow (m := 0) H6.out _, below_setRow ((R2.out.2.2.trans (hB3.mono hl1)).alloc (by omega) _) (by omega) _⟩
  clear hTR hTR4 hB3 R2
  have KP : Hid (∀ W W', (RowAt W (w.heap.size + 1) 29 (three x) ∧ RowAt W w3.heap.size 28 #[.int .u64 (p : Int), .int .u64 (q : Int), .int .u64 (r : Int)] ∧ TR W v p q r er ok ∧ Below w.heap.size w W) → Below W.heap.size W W' → (RowAt W' (w.heap.size + 1) 29 (three x) ∧ RowAt W' w3.heap.size 28 #[.int .u64 (p : Int), .int .u64 (q : Int), .int .u64 (r : Int)] ∧ TR W' v p q r er ok ∧ Below w.heap.size w W')) := Lib.hid (fun W W' h hB => ⟨h.1.keep hB, h.2.1.keep hB, h.2.2.1.keep hB, h.2.2.2.trans (hB.mono h.2.2.2.size)⟩)
  obtain ⟨hp, hq, hr, ⟨rfl, rfl, hT, hV⟩ | ⟨rfl, rfl, her, hno⟩⟩ := K4.out.2.2.1
  · have HT := Lib.hid hT
    obtain ⟨n0, n1⟩ := hT.lt
    have RP : Hid (∀ W W', (RowAt W (w.heap.size + 1) 29 (three x) ∧ RowAt W w3.heap.size 28 #[.int .u64 (p : Int), .int .u64 (q : Int), .int .u64 (r : Int)] ∧ TrioP W W.heap.size v p q r ∧ Below w.heap.size w W) → Below W.heap.size W W' → (RowAt W' (w.heap.size + 1) 29 (three x) ∧ RowAt W' w3.heap.size 28 #[.int .u64 (p : Int), .int .u64 (q : Int), .int .u64 (r : Int)] ∧ TrioP W' W'.heap.size v p q r ∧ Below w.heap.size w W')) := Lib.hid (fun W W' h hB => ⟨h.1.keep hB, h.2.1.keep hB, (h.2.2.1.below hB).mono hB.size, h.2.2.2.trans (hB.mono h.2.2.2.size)⟩)
    have R4d : Hid (RowAt (((w3.alloc (.cells #[.int .u64 0, .int .u64 0, .int .u64 0] 28)).setRow w3.heap.size #[.int .u64 (p : Int), .int .u64 (q : Int), .int .u64 (r : Int)]).drewN 1) (w.heap.size + 1) 29 (three x) ∧ RowAt (((w3.alloc (.cells #[.int .u64 0, .int .u64 0, .int .u64 0] 28)).setRow w3.heap.size #[.int .u64 (p : Int), .int .u64 (q : Int), .int .u64 (r : Int)]).drewN 1) w3.heap.size 28 #[.int .u64 (p : Int), .int .u64 (q : Int), .int .u64 (r : Int)] ∧ TrioP (((w3.alloc (.cells #[.int .u64 0, .int .u64 0, .int .u64 0] 28)).setRow w3.heap.size #[.int .u64 (p : Int), .int .u64 (q : Int), .int .u64 (r : Int)]).drewN 1) (((w3.alloc (.cells #[.int .u64 0, .int .u64 0, .int .u64 0] 28)).setRow w3.heap.size #[.int .u64 (p : Int), .int .u64 (q : Int), .int .u64 (r : Int)]).drewN 1).heap.size v p q r ∧ Below w.heap.size w (((w3.alloc (.cells #[.int .u64 0, .int .u64 0, .int .u64 0] 28)).setRow w3.heap.size #[.int .u64 (p : Int), .int .u64 (q : Int), .int .u64 (r : Int)]).drewN 1)) := Lib.hid ⟨K4.out.1, K4.out.2.1, hV.below (below_drewN (Below.refl _ _) 1), below_drewN K4.out.2.2.2 1⟩
    have HCx : Hid (∀ W, TrioP W W.heap.size v p q r → Calls Tryz.prog 15 #[v, .agg (three x)] W fun e w' => e = .returned (.agg (three (if x ≤ p * q * r / 2 then x else dif x (p * q * r)))) ∧ Below W.heap.size W w') := Lib.hid (fun W h => tcentre_yes h x hx n1)
    have HBx : Hid (∀ W, Calls Tryz.prog 17 #[.agg (three x)] W fun e w' => e = .returned (.agg (bcells x)) ∧ Below W.heap.size W w') := Lib.hid (fun W => bits23_any x hx W)
    have HPd : Hid (∀ W, Calls Tryz.prog 18 #[.agg #[.int .u64 (p : Int), .int .u64 (q : Int), .int .u64 (r : Int)]] W fun e w' => e = .returned (.agg (bcells (p * q * r))) ∧ Below W.heap.size W w') := Lib.hid (fun W => product23_any p q r (by omega) (by omega) (by omega) W)
    have HCe : Hid (∀ j, j < 6277101735386680763835789423207666416102355444464034512896 → ∀ W, TrioP W W.heap.size v p q r → Calls Tryz.prog 15 #[v, .agg (three j)] W fun e w' => e = .returned (.agg (three (if j ≤ p * q * r / 2 then j else dif j (p * q * r)))) ∧ Below W.heap.size W w') := Lib.hid (fun j hj W h => tcentre_yes h j hj n1)
    obtain ⟨N, hN⟩ : ∃ N, N = p * q * r := ⟨_, rfl⟩
    have HN := Lib.hid hN
    rw [← hN] at HCx HPd HCe n0 n1
    have HCr : Hid (∀ W, Calls Tryz.prog 16 #[.agg (bcells x), .agg (bcells N)] W fun e w' => e = .returned (.agg (three (if x ≤ N / 2 then x else dif x N))) ∧ Below W.heap.size W w') := Lib.hid (fun W => by
      have h := r23centre_any x N (by omega) (by omega) W
      rw [← three_mod (if N < x + x then x + turn N else x), centre_same x N hx n0 n1, three_mod] at h
      exact h)
    rw [← three_mod (if x ≤ N / 2 then x else dif x N)] at HCx HCr
    obtain ⟨C, hC⟩ : ∃ C, C = (if x ≤ N / 2 then x else dif x N) % 6277101735386680763835789423207666416102355444464034512896 := ⟨_, rfl⟩
    rw [← hC] at HCx HCr
    have hCb : C < 6277101735386680763835789423207666416102355444464034512896 := by rw [hC]; exact Nat.mod_lt _ (by omega)
    have qw := eqn_words C C hCb hCb
    rw [decide_eq_true (rfl : C = C)] at qw
    obtain ⟨sz, hsz⟩ : ∃ sz : Nat, (sz : Int) = (if n < 0 then -n else n) := ⟨(if n < 0 then -n else n).toNat, Int.toNat_of_nonneg (by split <;> omega)⟩
    have hszb : sz ≤ 9223372036854775808 := by split at hsz <;> omega
    have HBs : Hid (∀ W, Calls Tryz.prog 17 #[.agg #[.int .u64 (sz : Int), .int .u64 0, .int .u64 0]] W fun e w' => e = .returned (.agg (bcells sz)) ∧ Below W.heap.size W w') := Lib.hid (fun W => by
      have h := bits23_any sz (by omega) W
      have e1 : three sz = #[.int .u64 (sz : Int), .int .u64 0, .int .u64 0] := by
        have h := three_words (a := sz) (b := 0) (c := 0) (by omega) (by omega) (by omega)
        simpa using h
      rw [e1] at h; exact h)
    have HSm : Hid (∀ W, Calls Tryz.prog 20 #[.agg (bcells sz), .agg (bcells sz)] W fun e w' => e = .returned (.agg (bcells (sz + sz))) ∧ Below W.heap.size W w') := Lib.hid (fun W => r1sum_any sz sz W)
    obtain ⟨s2, hs2⟩ : ∃ s, s = sz + sz := ⟨_, rfl⟩
    have HLs : Hid (∀ W, Calls Tryz.prog 19 #[.agg (bcells s2), .agg (bcells N)] W fun e w' => e = .returned (.bool (decide (s2 < N))) ∧ Below W.heap.size W w') := Lib.hid (fun W => r1less_any s2 N (by omega) (by omega) W)
    rw [← hs2] at HSm
    have HS2 := Lib.hid hs2
    have HSZ := Lib.hid hsz
    obtain ⟨ng, hng⟩ : ∃ ng, ng = decide (n < 0) := ⟨_, rfl⟩
    have HNG := Lib.hid hng
    clear hC hCb hN hs2 K4 KP hT hV n0 hsz hng
    go_wp2_with (refine wpList_store_row rfl _ _ _ rfl _ #[.int .u64 (p : Int), .int .u64 (q : Int), .int .u64 (r : Int)] rfl rfl _ _ (H6.out) size_w3 rfl (one3 _ _ _) ?_; generalize hW4 : (w3.alloc (.cells #[.int .u64 0, .int .u64 0, .int .u64 0] 28)).setRow w3.heap.size #[.int .u64 (p : Int), .int .u64 (q : Int), .int .u64 (r : Int)] = w4 at *)
    try simp only [Act.put]
    change (Code.region _ _ true).wp _ _ _ _
    refine wp_region_held_drew (S := fun wz => RowAt wz (w.heap.size + 1) 29 (three x) ∧ RowAt wz w3.heap.size 28 #[.int .u64 (p : Int), .int .u64 (q : Int), .int .u64 (r : Int)]) (by kernel_rfl) (⟨R4d.out.1, R4d.out.2.1⟩) (fun hHeld => ?_)
    refine wpAnyH_take (i := 0) (v := ?_) rfl (by kernel_rfl) (by kernel_rfl) (by kernel_rfl) (fun _ _ _ h => h) (Or.inl ⟨by rfl, ?_⟩) (by assumption) ?_
    rotate_left
    · intro w hSw; (try dsimp only at hSw); go_simp; try with_reducible rfl
    try simp only [Act.put, List.getElem_toArray, List.getElem_cons_zero, List.getElem_cons_succ, List.setIfInBounds_toArray, List.set_cons_zero, List.set_cons_succ]
    refine wpAnyH_take (i := 1) rfl (by kernel_rfl) (by kernel_rfl) (by kernel_rfl) (fun _ _ _ h => h) (yieldsIf_load_row (by rfl) _ _ rfl _ rfl _ _ _ (fun wz h => h.1) Tryz.underlying29 rfl size_three) (by assumption) ?_
    try simp only [Act.put, List.getElem_toArray, List.getElem_cons_zero, List.getElem_cons_succ, List.setIfInBounds_toArray, List.set_cons_zero, List.set_cons_succ]
    refine wpAnyH_take (i := 3) rfl (by kernel_rfl) (by kernel_rfl) (by kernel_rfl) (fun _ _ _ h => h) (yieldsIf_load_row (by rfl) _ _ rfl _ rfl _ _ _ (fun wz h => h.1) Tryz.underlying29 rfl size_three) (by assumption) ?_
    try simp only [Act.put, List.getElem_toArray, List.getElem_cons_zero, List.getElem_cons_succ, List.setIfInBounds_toArray, List.set_cons_zero, List.set_cons_succ]
    refine wpAnyH_take (i := 5) rfl (by kernel_rfl) (by kernel_rfl) (by kernel_rfl) (fun _ _ _ h => h) (yieldsIf_load_row (by rfl) _ _ rfl _ rfl _ _ _ (fun wz h => h.2) Tryz.underlying28 rfl size_w3) (by assumption) ?_
    try simp only [Act.put, List.getElem_toArray, List.getElem_cons_zero, List.getElem_cons_succ, List.setIfInBounds_toArray, List.set_cons_zero, List.set_cons_succ]
    refine wpAnyH_ready (rs := [2]) (by kernel_rfl) (by simp) ?_
    refine AllReadyH.cons rfl (fun K hK => ?_) AllReadyH.nil
    try simp only [List.getElem_toArray, List.getElem_cons_zero, List.getElem_cons_succ]
    rw [if_pos (by rfl)]
    go_wp2_with (go_at_call 15; refine (HCx.out _ R4d.out.2.2.1).mono ?_; rintro e y2 ⟨rfl, hY2⟩)
    have z2 := Lib.hid (RP.out _ _ R4d.out hY2)
    clear hY2
    refine hK.out _ _ (⟨z2.out.1, z2.out.2.1⟩) (fun _ => ?_)
    clear hK K
    try simp only [Act.put, List.getElem_toArray, List.getElem_cons_zero, List.getElem_cons_succ, List.setIfInBounds_toArray, List.set_cons_zero, List.set_cons_succ]
    refine wpAnyH_ready (rs := [4]) (by kernel_rfl) (by simp) ?_
    refine AllReadyH.cons rfl (fun K hK => ?_) AllReadyH.nil
    try simp only [List.getElem_toArray, List.getElem_cons_zero, List.getElem_cons_succ]
    rw [if_pos (by rfl)]
    go_wp2_with (go_at_call 17; refine (HBx.out _).mono ?_; rintro e y4 ⟨rfl, hY4⟩)
    have z4 := Lib.hid (RP.out _ _ z2.out hY4)
    clear hY4
    refine hK.out _ _ (⟨z4.out.1, z4.out.2.1⟩) (fun _ => ?_)
    clear hK K
    try simp only [Act.put, List.getElem_toArray, List.getElem_cons_zero, List.getElem_cons_succ, List.setIfInBounds_toArray, List.set_cons_zero, List.set_cons_succ]
    refine wpAnyH_ready (rs := [6]) (by kernel_rfl) (by simp) ?_
    refine AllReadyH.cons rfl (fun K hK => ?_) AllReadyH.nil
    try simp only [List.getElem_toArray, List.getElem_cons_zero, List.getElem_cons_succ]
    rw [if_pos (by rfl)]
    go_wp2_with (go_at_call 18; refine (HPd.out _).mono ?_; rintro e y6 ⟨rfl, hY6⟩)
    have z6 := Lib.hid (RP.out _ _ z4.out hY6)
    clear hY6
    refine hK.out _ _ (⟨z6.out.1, z6.out.2.1⟩) (fun _ => ?_)
    clear hK K
    try simp only [Act.put, List.getElem_toArray, List.getElem_cons_zero, List.getElem_cons_succ, List.setIfInBounds_toArray, List.set_cons_zero, List.set_cons_succ]
    refine wpAnyH_ready (rs := [7]) (by kernel_rfl) (by simp) ?_
    refine AllReadyH.cons rfl (fun K hK => ?_) AllReadyH.nil
    try simp only [List.getElem_toArray, List.getElem_cons_zero, List.getElem_cons_succ]
    rw [if_pos (by rfl)]
    go_wp2_with (go_at_call 16; refine (HCr.out _).mono ?_; rintro e y7 ⟨rfl, hY7⟩)
    have z7 := Lib.hid (RP.out _ _ z6.out hY7)
    clear hY7
    refine hK.out _ _ (⟨z7.out.1, z7.out.2.1⟩) (fun _ => ?_)
    clear hK K
    try simp only [Act.put, List.getElem_toArray, List.getElem_cons_zero, List.getElem_cons_succ, List.setIfInBounds_toArray, List.set_cons_zero, List.set_cons_succ]
    refine wpAnyH_take (i := 8) (v := ?_) rfl (by kernel_rfl) (by kernel_rfl) (by kernel_rfl) (fun _ _ _ h => h) (Or.inl ⟨by rfl, ?_⟩) ⟨z7.out.1, z7.out.2.1⟩ ?_
    rotate_left
    · intro w hSw; (try dsimp only at hSw); go_simp; try with_reducible rfl
    try simp only [Act.put, List.getElem_toArray, List.getElem_cons_zero, List.getElem_cons_succ, List.setIfInBounds_toArray, List.set_cons_zero, List.set_cons_succ]
    refine wpAnyH_done (by kernel_rfl) ?_ _
    clear z2 z4 z6 R4d HCx HCr HBx
    have hsn : (n < 0 ∧ (sz : Int) = -n) ∨ (0 ≤ n ∧ (sz : Int) = n) := by
      have h := HSZ.out
      by_cases hh : n < 0
      · rw [if_pos hh] at h; exact .inl ⟨hh, h⟩
      · rw [if_neg hh] at h; exact .inr ⟨by omega, h⟩
    have hzb : ∀ w, (zeroValue 38).run Tryz.prog w = .ok (.agg (bcells 0)) w := (zero_of_info info_bits).1
    rcases hsn with ⟨hn2, hsz2⟩ | ⟨hn2, hsz2⟩
    · have hw1 : IntKind.u64.wrap n = n + 18446744073709551616 := by rw [IntKind.wrap_u64]; omega
      have hw2 : IntKind.u64.wrap (-(n + 18446744073709551616)) = (sz : Int) := by rw [IntKind.wrap_u64]; omega
      have tn : decide (n < 0) = true := decide_eq_true hn2
      have HZ2 := Lib.hid hsz2
      clear hsz2
      go_wp2_with fail
      refine (HBs.out _).mono ?_
      rintro e w8 ⟨rfl, hB8⟩
      have R8 := Lib.hid (RP.out _ _ z7.out hB8)
      have H12 := Lib.hid (RowAt.new w8 38 (bcells 0))
      have hm1 : w3.heap.size ≠ w8.heap.size := by have := R8.out.2.1.lt; omega
      have hsz1 := R8.out.2.2.2.size
      have hTr : TrioP ((w8.alloc (.cells (bcells 0) 38)).setRow w8.heap.size (bcells sz)) ((w8.alloc (.cells (bcells 0) 38)).setRow w8.heap.size (bcells sz)).heap.size v p q r := by
        have h := R8.out.2.2.1
        have hB9 : Below w8.heap.size w8 ((w8.alloc (.cells (bcells 0) 38)).setRow w8.heap.size (bcells sz)) := below_setRow ((Below.refl w8.heap.size w8).alloc (Nat.le_refl _) _) (Nat.le_refl _) _
        exact (h.below hB9).mono hB9.size
      have U9d : Hid (RowAt (((w8.alloc (.cells (bcells 0) 38)).setRow w8.heap.size (bcells sz)).drewN 1) w3.heap.size 28 #[.int .u64 (p : Int), .int .u64 (q : Int), .int .u64 (r : Int)] ∧ RowAt (((w8.alloc (.cells (bcells 0) 38)).setRow w8.heap.size (bcells sz)).drewN 1) w8.heap.size 38 (bcells sz) ∧ TrioP (((w8.alloc (.cells (bcells 0) 38)).setRow w8.heap.size (bcells sz)).drewN 1) (((w8.alloc (.cells (bcells 0) 38)).setRow w8.heap.size (bcells sz)).drewN 1).heap.size v p q r ∧ Below w.heap.size w (((w8.alloc (.cells (bcells 0) 38)).setRow w8.heap.size (bcells sz)).drewN 1)) := Lib.hid ⟨(R8.out.2.1.alloc _).setRowOther _ _ hm1, H12.out.setRow _, hTr.below (below_drewN (Below.refl _ _) 1), below_drewN (below_setRow (R8.out.2.2.2.alloc hsz1 _) hsz1 _) 1⟩
      have UP : Hid (∀ W W', (RowAt W w3.heap.size 28 #[.int .u64 (p : Int), .int .u64 (q : Int), .int .u64 (r : Int)] ∧ RowAt W w8.heap.size 38 (bcells sz) ∧ TrioP W W.heap.size v p q r ∧ Below w.heap.size w W) → Below W.heap.size W W' → (RowAt W' w3.heap.size 28 #[.int .u64 (p : Int), .int .u64 (q : Int), .int .u64 (r : Int)] ∧ RowAt W' w8.heap.size 38 (bcells sz) ∧ TrioP W' W'.heap.size v p q r ∧ Below w.heap.size w W')) := Lib.hid (fun W W' h hB => ⟨h.1.keep hB, h.2.1.keep hB, (h.2.2.1.below hB).mono hB.size, h.2.2.2.trans (hB.mono h.2.2.2.size)⟩)
      clear R8 hB8 hTr z7 RP HBs
      go_wp2_with (refine wpList_store_row rfl _ _ _ rfl _ _ rfl rfl _ _ (H12.out) size_bits rfl (bcells_one _) ?_)
      generalize (w8.alloc (.cells (bcells 0) 38)).setRow w8.heap.size (bcells sz) = w9 at *
      try simp only [Act.put]
      change (Code.region _ _ true).wp _ _ _ _
      by_cases hlt2 : s2 < N
      case neg =>
        rw [decide_eq_false hlt2] at HLs
        clear hlt2
        refine wp_region_held_drew (S := fun wz => RowAt wz w8.heap.size 38 (bcells sz) ∧ RowAt wz w3.heap.size 28 #[.int .u64 (p : Int), .int .u64 (q : Int), .int .u64 (r : Int)]) (by kernel_rfl) (⟨U9d.out.2.1, U9d.out.1⟩) (fun hHeld => ?_)
        refine wpAnyH_take (i := 0) rfl (by kernel_rfl) (by kernel_rfl) (by kernel_rfl) (fun _ _ _ h => h) (yieldsIf_load_row (by rfl) _ _ rfl _ rfl _ _ _ (fun wz h => h.1) Tryz.underlying38 rfl size_bits) (by assumption) ?_
        try simp only [Act.put, List.getElem_toArray, List.getElem_cons_zero, List.getElem_cons_succ, List.setIfInBounds_toArray, List.set_cons_zero, List.set_cons_succ]
        refine wpAnyH_take (i := 1) rfl (by kernel_rfl) (by kernel_rfl) (by kernel_rfl) (fun _ _ _ h => h) (yieldsIf_load_row (by rfl) _ _ rfl _ rfl _ _ _ (fun wz h => h.1) Tryz.underlying38 rfl size_bits) (by assumption) ?_
        try simp only [Act.put, List.getElem_toArray, List.getElem_cons_zero, List.getElem_cons_succ, List.setIfInBounds_toArray, List.set_cons_zero, List.set_cons_succ]
        refine wpAnyH_take (i := 3) rfl (by kernel_rfl) (by kernel_rfl) (by kernel_rfl) (fun _ _ _ h => h) (yieldsIf_load_row (by rfl) _ _ rfl _ rfl _ _ _ (fun wz h => h.2) Tryz.underlying28 rfl size_w3) (by assumption) ?_
        try simp only [Act.put, List.getElem_toArray, List.getElem_cons_zero, List.getElem_cons_succ, List.setIfInBounds_toArray, List.set_cons_zero, List.set_cons_succ]
        refine wpAnyH_ready (rs := [2]) (by kernel_rfl) (by simp) ?_
        refine AllReadyH.cons rfl (fun K hK => ?_) AllReadyH.nil
        try simp only [List.getElem_toArray, List.getElem_cons_zero, List.getElem_cons_succ]
        rw [if_pos (by rfl)]
        go_wp2_with (go_at_call 20; refine (HSm.out _).mono ?_; rintro e y2 ⟨rfl, hY2⟩)
        have z2 := Lib.hid (UP.out _ _ U9d.out hY2)
        clear hY2
        refine hK.out _ _ (⟨z2.out.2.1, z2.out.1⟩) (fun _ => ?_)
        clear hK K
        try simp only [Act.put, List.getElem_toArray, List.getElem_cons_zero, List.getElem_cons_succ, List.setIfInBounds_toArray, List.set_cons_zero, List.set_cons_succ]
        refine wpAnyH_ready (rs := [4]) (by kernel_rfl) (by simp) ?_
        refine AllReadyH.cons rfl (fun K hK => ?_) AllReadyH.nil
        try simp only [List.getElem_toArray, List.getElem_cons_zero, List.getElem_cons_succ]
        rw [if_pos (by rfl)]
        go_wp2_with (go_at_call 18; refine (HPd.out _).mono ?_; rintro e y4 ⟨rfl, hY4⟩)
        have z4 := Lib.hid (UP.out _ _ z2.out hY4)
        clear hY4
        refine hK.out _ _ (⟨z4.out.2.1, z4.out.1⟩) (fun _ => ?_)
        clear hK K
        try simp only [Act.put, List.getElem_toArray, List.getElem_cons_zero, List.getElem_cons_succ, List.setIfInBounds_toArray, List.set_cons_zero, List.set_cons_succ]
        refine wpAnyH_ready (rs := [5]) (by kernel_rfl) (by simp) ?_
        refine AllReadyH.cons rfl (fun K hK => ?_) AllReadyH.nil
        try simp only [List.getElem_toArray, List.getElem_cons_zero, List.getElem_cons_succ]
        rw [if_pos (by rfl)]
        go_wp2_with (go_at_call 19; refine (HLs.out _).mono ?_; rintro e y5 ⟨rfl, hY5⟩)
        have z5 := Lib.hid (UP.out _ _ z4.out hY5)
        clear hY5
        refine hK.out _ _ (⟨z5.out.2.1, z5.out.1⟩) (fun _ => ?_)
        clear hK K
        try simp only [Act.put, List.getElem_toArray, List.getElem_cons_zero, List.getElem_cons_succ, List.setIfInBounds_toArray, List.set_cons_zero, List.set_cons_succ]
        refine wpAnyH_take (i := 6) (v := ?_) rfl (by kernel_rfl) (by kernel_rfl) (by kernel_rfl) (fun _ _ _ h => h) (Or.inl ⟨by rfl, ?_⟩) ⟨z5.out.2.1, z5.out.1⟩ ?_
        rotate_left
        · intro w hSw; (try dsimp only at hSw); go_simp; try with_reducible rfl
        try simp only [Act.put, List.getElem_toArray, List.getElem_cons_zero, List.getElem_cons_succ, List.setIfInBounds_toArray, List.set_cons_zero, List.set_cons_succ]
        refine wpAnyH_done (by kernel_rfl) ?_ _
        go_wp2
        go_ret
        exact ⟨rfl, z5.out.2.2.2⟩
      rw [decide_eq_true hlt2] at HLs
      have HLT := Lib.hid hlt2
      clear hlt2
      refine wp_region_held_drew (S := fun wz => RowAt wz w8.heap.size 38 (bcells sz) ∧ RowAt wz w3.heap.size 28 #[.int .u64 (p : Int), .int .u64 (q : Int), .int .u64 (r : Int)]) (by kernel_rfl) (⟨U9d.out.2.1, U9d.out.1⟩) (fun hHeld => ?_)
      refine wpAnyH_take (i := 0) rfl (by kernel_rfl) (by kernel_rfl) (by kernel_rfl) (fun _ _ _ h => h) (yieldsIf_load_row (by rfl) _ _ rfl _ rfl _ _ _ (fun wz h => h.1) Tryz.underlying38 rfl size_bits) (by assumption) ?_
      try simp only [Act.put, List.getElem_toArray, List.getElem_cons_zero, List.getElem_cons_succ, List.setIfInBounds_toArray, List.set_cons_zero, List.set_cons_succ]
      refine wpAnyH_take (i := 1) rfl (by kernel_rfl) (by kernel_rfl) (by kernel_rfl) (fun _ _ _ h => h) (yieldsIf_load_row (by rfl) _ _ rfl _ rfl _ _ _ (fun wz h => h.1) Tryz.underlying38 rfl size_bits) (by assumption) ?_
      try simp only [Act.put, List.getElem_toArray, List.getElem_cons_zero, List.getElem_cons_succ, List.setIfInBounds_toArray, List.set_cons_zero, List.set_cons_succ]
      refine wpAnyH_take (i := 3) rfl (by kernel_rfl) (by kernel_rfl) (by kernel_rfl) (fun _ _ _ h => h) (yieldsIf_load_row (by rfl) _ _ rfl _ rfl _ _ _ (fun wz h => h.2) Tryz.underlying28 rfl size_w3) (by assumption) ?_
      try simp only [Act.put, List.getElem_toArray, List.getElem_cons_zero, List.getElem_cons_succ, List.setIfInBounds_toArray, List.set_cons_zero, List.set_cons_succ]
      refine wpAnyH_ready (rs := [2]) (by kernel_rfl) (by simp) ?_
      refine AllReadyH.cons rfl (fun K hK => ?_) AllReadyH.nil
      try simp only [List.getElem_toArray, List.getElem_cons_zero, List.getElem_cons_succ]
      rw [if_pos (by rfl)]
      go_wp2_with (go_at_call 20; refine (HSm.out _).mono ?_; rintro e y2 ⟨rfl, hY2⟩)
      have z2 := Lib.hid (UP.out _ _ U9d.out hY2)
      clear hY2
      refine hK.out _ _ (⟨z2.out.2.1, z2.out.1⟩) (fun _ => ?_)
      clear hK K
      try simp only [Act.put, List.getElem_toArray, List.getElem_cons_zero, List.getElem_cons_succ, List.setIfInBounds_toArray, List.set_cons_zero, List.set_cons_succ]
      refine wpAnyH_ready (rs := [4]) (by kernel_rfl) (by simp) ?_
      refine AllReadyH.cons rfl (fun K hK => ?_) AllReadyH.nil
      try simp only [List.getElem_toArray, List.getElem_cons_zero, List.getElem_cons_succ]
      rw [if_pos (by rfl)]
      go_wp2_with (go_at_call 18; refine (HPd.out _).mono ?_; rintro e y4 ⟨rfl, hY4⟩)
      have z4 := Lib.hid (UP.out _ _ z2.out hY4)
      clear hY4
      refine hK.out _ _ (⟨z4.out.2.1, z4.out.1⟩) (fun _ => ?_)
      clear hK K
      try simp only [Act.put, List.getElem_toArray, List.getElem_cons_zero, List.getElem_cons_succ, List.setIfInBounds_toArray, List.set_cons_zero, List.set_cons_succ]
      refine wpAnyH_ready (rs := [5]) (by kernel_rfl) (by simp) ?_
      refine AllReadyH.cons rfl (fun K hK => ?_) AllReadyH.nil
      try simp only [List.getElem_toArray, List.getElem_cons_zero, List.getElem_cons_succ]
      rw [if_pos (by rfl)]
      go_wp2_with (go_at_call 19; refine (HLs.out _).mono ?_; rintro e y5 ⟨rfl, hY5⟩)
      have z5 := Lib.hid (UP.out _ _ z4.out hY5)
      clear hY5
      refine hK.out _ _ (⟨z5.out.2.1, z5.out.1⟩) (fun _ => ?_)
      clear hK K
      try simp only [Act.put, List.getElem_toArray, List.getElem_cons_zero, List.getElem_cons_succ, List.setIfInBounds_toArray, List.set_cons_zero, List.set_cons_succ]
      refine wpAnyH_take (i := 6) (v := ?_) rfl (by kernel_rfl) (by kernel_rfl) (by kernel_rfl) (fun _ _ _ h => h) (Or.inl ⟨by rfl, ?_⟩) ⟨z5.out.2.1, z5.out.1⟩ ?_
      rotate_left
      · intro w hSw; (try dsimp only at hSw); go_simp; try with_reducible rfl
      try simp only [Act.put, List.getElem_toArray, List.getElem_cons_zero, List.getElem_cons_succ, List.setIfInBounds_toArray, List.set_cons_zero, List.set_cons_succ]
      refine wpAnyH_done (by kernel_rfl) ?_ _
      obtain ⟨nn, hnn⟩ : ∃ nn, nn = w3n (sgnR sz p true) (sgnR sz q true) (sgnR sz r true) := ⟨_, rfl⟩
      have hp0 : 0 < p := by have := HT.out.p3; omega
      have hq0 : 0 < q := by have := HT.out.q3; omega
      have hr0 : 0 < r := by have := HT.out.r3; omega
      have sp := sgnR_lt (sz := sz) (ng := true) hp0
      have sq := sgnR_lt (sz := sz) (ng := true) hq0
      have sr := sgnR_lt (sz := sz) (ng := true) hr0
      have HI : Hid (∀ i, i < 3 → pk p q r i ≠ 0 ∧ pk p q r i < 18446744073709551616 ∧ wd nn i = sgnR sz (pk p q r i) true ∧ (#[.int .u64 (p : Int), .int .u64 (q : Int), .int .u64 (r : Int)] : Array Value)[i]? = some (.int .u64 ((pk p q r i : Nat) : Int))) := Lib.hid (fun i hi => by
        refine ⟨?_, ?_, ?_, ?_⟩
        · unfold pk; split <;> (try split) <;> omega
        · unfold pk; split <;> (try split) <;> omega
        · rw [hnn, wd_w3n (by omega) (by omega) (by omega) i hi]
          match i, hi with
          | 0, _ => rfl
          | 1, _ => rfl
          | 2, _ => rfl
        · match i, hi with
          | 0, _ => rfl
          | 1, _ => rfl
          | 2, _ => rfl)
      have HE : Hid (nn % 18446744073709551616 ^ 3 = nn) := Lib.hid (by rw [hnn]; exact w3n_mod (by omega) (by omega) (by omega))
      have HNN := Lib.hid hnn
      have V0 : Hid (RowAt (y5.alloc (.cells #[.int .u64 0, .int .u64 0, .int .u64 0] 28)) y5.heap.size 28 (three (nn % 18446744073709551616 ^ 0)) ∧ TrioP (y5.alloc (.cells #[.int .u64 0, .int .u64 0, .int .u64 0] 28)) (y5.alloc (.cells #[.int .u64 0, .int .u64 0, .int .u64 0] 28)).heap.size v p q r ∧ Below w.heap.size w (y5.alloc (.cells #[.int .u64 0, .int .u64 0, .int .u64 0] 28))) := Lib.hid ⟨by rw [Nat.pow_zero, Nat.mod_one]; exact RowAt.new y5 _ _, (z5.out.2.2.1.below ((Below.refl y5.heap.size y5).alloc (Nat.le_refl _) _)).mono (by simp), z5.out.2.2.2.alloc z5.out.2.2.2.size _⟩
      have P5 := Lib.hid (z5.out.1.alloc (.cells #[.int .u64 0, .int .u64 0, .int .u64 0] 28))
      have hle5 := z5.out.2.2.2.size
      clear sp sq sr hnn z2 z4 z5 U9d UP HPd HSm HLs
      go_wp2_with (refine wpList_load_row rfl _ _ rfl _ rfl _ _ _ _ (P5.out) Tryz.underlying28 rfl (by exact size_w3) ?_)
      generalize y5.alloc (.cells #[.int .u64 0, .int .u64 0, .int .u64 0] 28) = w10 at *
      go_loopw [55] (fun I wr => ∃ i : Nat, I = .int .i64 i ∧ i ≤ 3 ∧ Hid (RowAt wr y5.heap.size 28 (three (nn % 18446744073709551616 ^ i)) ∧ TrioP wr wr.heap.size v p q r ∧ Below w.heap.size w wr)) (fun I _ => 3 - (intOf I).toNat)
      case atStart => exact ⟨0, rfl, by omega, V0⟩
      case round =>
        clear V0 P5
        obtain ⟨i, rfl, hi, V⟩ := hrel
        by_cases hlt : i < 3
        · have f0 : (0 : Int) ≤ (i : Int) := by omega
          have f1 : (i : Int) < 3 := by omega
          obtain ⟨m0, m1, hwd, hpm⟩ := HI.out i hlt
          have hix : ∀ W, (Instr.index 28 (.agg #[.int .u64 (p : Int), .int .u64 (q : Int), .int .u64 (r : Int)]) (.int .i64 (i : Int))).run Tryz.prog W = .ok (.int .u64 ((pk p q r i : Nat) : Int)) W := fun W => run_index_row _ _ _ _ _ _ _ Tryz.underlying28 rfl Tryz.underlying22 (by kernel_rfl) hlt hpm W
          have e0 := V.out.1.cell (three_get _ i hlt)
          have e1 := V.out.1.frozen i
          have hst := three_next (n := nn) hlt
          rw [hwd] at hst
          obtain ⟨m, hm⟩ : ∃ m, m = pk p q r i := ⟨_, rfl⟩
          rw [← hm] at hix m0 m1 hst
          obtain ⟨u1, hu1⟩ : ∃ u, u = sz % m := ⟨_, rfl⟩
          have hul : u1 < m := by rw [hu1]; exact Nat.mod_lt _ (by omega)
          obtain ⟨z, hz9⟩ : ∃ z, z = sgnR sz m true := ⟨_, rfl⟩
          rw [← hz9] at hst
          unfold sgnR at hz9
          rw [← hu1] at hz9
          have vr : (sz : Int) % (m : Int) = (u1 : Int) := by rw [hu1]; rfl
          have tm : ((m : Int) == 0) = false := by simp; omega
          have HST := Lib.hid hst
          have TS1 : Hid (TrioP (wr.setCell ⟨y5.heap.size, i, none⟩ (.int .u64 (u1 : Int))) (wr.setCell ⟨y5.heap.size, i, none⟩ (.int .u64 (u1 : Int))).heap.size v p q r) := Lib.hid (V.out.2.1.setCell V.out.1 i _)
          have TS : Hid (∀ k : Int, TrioP ((wr.setCell ⟨y5.heap.size, i, none⟩ (.int .u64 (u1 : Int))).setCell ⟨y5.heap.size, i, none⟩ (.int .u64 k)) ((wr.setCell ⟨y5.heap.size, i, none⟩ (.int .u64 (u1 : Int))).setCell ⟨y5.heap.size, i, none⟩ (.int .u64 k)).heap.size v p q r) := Lib.hid (fun k => by
            have h1 := V.out.1.set i (.int .u64 (u1 : Int))
            obtain ⟨m', hm'⟩ := three_cells (nn % 18446744073709551616 ^ i) i u1 hlt (by omega)
            rw [hm'] at h1
            exact TS1.out.setCell h1 i _)
          clear hm hu1 hst hwd hpm
          have c9 := (V.out.1.set i (.int .u64 (u1 : Int))).cell (i := i) (v := .int .u64 (u1 : Int)) (by rw [Array.getElem?_setIfInBounds, if_pos rfl, if_pos (by rw [three_size]; exact hlt)])
          have g9 := (V.out.1.set i (.int .u64 (u1 : Int))).frozen i
          by_cases hu : 0 < u1
          · have vm : (m : Int) - (u1 : Int) = (z : Int) := by rw [hz9, if_pos ⟨rfl, hu⟩]; omega
            have V' : Hid (RowAt ((wr.setCell ⟨y5.heap.size, i, none⟩ (.int .u64 (u1 : Int))).setCell ⟨y5.heap.size, i, none⟩ (.int .u64 (z : Int))) y5.heap.size 28 (three (nn % 18446744073709551616 ^ (i + 1))) ∧ TrioP ((wr.setCell ⟨y5.heap.size, i, none⟩ (.int .u64 (u1 : Int))).setCell ⟨y5.heap.size, i, none⟩ (.int .u64 (z : Int))) ((wr.setCell ⟨y5.heap.size, i, none⟩ (.int .u64 (u1 : Int))).setCell ⟨y5.heap.size, i, none⟩ (.int .u64 (z : Int))).heap.size v p q r ∧ Below w.heap.size w ((wr.setCell ⟨y5.heap.size, i, none⟩ (.int .u64 (u1 : Int))).setCell ⟨y5.heap.size, i, none⟩ (.int .u64 (z : Int)))) := Lib.hid ⟨by
              have h := (V.out.1.set i (.int .u64 (u1 : Int))).set i (.int .u64 (z : Int))
              rw [set_set, HST.out] at h; exact h, TS.out (z : Int), below_setCell (below_setCell V.out.2.2 hle5 i _) hle5 i _⟩
            clear V TS HST hz9
            go_wp2
            go_roundw
            case rel => exact ⟨i + 1, by go_num, by omega, V'⟩
            case measure => simp [intOf]; omega
          · have hz0 : z = u1 := by rw [hz9, if_neg (fun hh => hu hh.2)]
            have tu : 2 * (u1 : Int) ≤ 1 := by omega
            have V' : Hid (RowAt (wr.setCell ⟨y5.heap.size, i, none⟩ (.int .u64 (u1 : Int))) y5.heap.size 28 (three (nn % 18446744073709551616 ^ (i + 1))) ∧ TrioP (wr.setCell ⟨y5.heap.size, i, none⟩ (.int .u64 (u1 : Int))) (wr.setCell ⟨y5.heap.size, i, none⟩ (.int .u64 (u1 : Int))).heap.size v p q r ∧ Below w.heap.size w (wr.setCell ⟨y5.heap.size, i, none⟩ (.int .u64 (u1 : Int)))) := Lib.hid ⟨by
              have h := V.out.1.set i (.int .u64 (u1 : Int))
              rw [← hz0, HST.out] at h; rw [← hz0]; exact h, TS1.out, below_setCell V.out.2.2 hle5 i _⟩
            clear V TS HST hz9 hz0 hu
            go_wp2
            go_roundw
            case rel => exact ⟨i + 1, by go_num, by omega, V'⟩
            case measure => simp [intOf]; omega
        · obtain rfl : i = 3 := by omega
          have r3 := V.out.1
          rw [HE.out] at r3
          have HNb := Lib.hid r3
          have HB9 := Lib.hid V.out.2.2
          have hJ := tjoin_yes V.out.2.1 HT.out (sgnR sz p true) (sgnR sz q true) (sgnR sz r true) (by have := sgnR_lt (sz := sz) (ng := true) hp0; omega) (by have := sgnR_lt (sz := sz) (ng := true) hq0; omega) (by have := sgnR_lt (sz := sz) (ng := true) hr0; omega)
          rw [← HNN.out] at hJ
          have HJ := Lib.hid hJ
          have HTr := Lib.hid V.out.2.1
          have HOf : Hid (∀ W, Calls Tryz.prog 22 #[.int .i64 n] W fun e w' => e = .returned (.agg (three (6277101735386680763835789423207666416102355444464034512896 - sz))) ∧ Below W.heap.size W w') := Lib.hid (fun W => by
            have h := lof_any n hn0 hn1 W
            rw [show (n % 6277101735386680763835789423207666416102355444464034512896).toNat = (6277101735386680763835789423207666416102355444464034512896 - sz) by have := HZ2.out; omega] at h
            exact h)
          clear hJ r3 V
          go_wp2_with (refine wpList_load_row rfl _ _ rfl _ rfl _ _ _ _ (HNb.out) Tryz.underlying28 rfl (by exact size_w3) ?_)
          refine HJ.out.mono ?_
          rintro e w11 ⟨j, rfl, j0, j1, j2, j3, hB11⟩
          rw [← HN.out] at j0
          have hfin := centre_neg (sz := sz) HT.out HN.out j0 (by have := HZ2.out; omega) (by have := HS2.out; have := HLT.out; omega) (sgnR_neg (by have := HT.out.p3; omega) j1) (sgnR_neg (by have := HT.out.q3; omega) j2) (sgnR_neg (by have := HT.out.r3; omega) j3)
          have HC2 := Lib.hid (HCe.out j (by omega) w11 ((HTr.out.below hB11).mono hB11.size))
          rw [hfin] at HC2
          have HB11 := Lib.hid (HB9.out.trans (hB11.mono HB9.out.size))
          obtain ⟨Ee, hE⟩ : ∃ Ee, Ee = (6277101735386680763835789423207666416102355444464034512896 - sz) := ⟨_, rfl⟩
          rw [← hE] at HC2 HOf
          have qe := eqn_three Ee Ee (by have := HZ2.out; omega) (by have := HZ2.out; omega)
          rw [decide_eq_true (rfl : Ee = Ee)] at qe
          clear hfin j0 j1 j2 j3 hB11 hE HJ
          go_wp2_with fail
          refine HC2.out.mono ?_
          rintro e w12 ⟨rfl, hB12⟩
          have HB12 := Lib.hid (HB11.out.trans (hB12.mono HB11.out.size))
          clear hB12 HC2 HB11
          go_wp2_with fail
          refine (HOf.out _).mono ?_
          rintro e w13 ⟨rfl, hB13⟩
          have HB13 := Lib.hid (HB12.out.trans (hB13.mono HB12.out.size))
          clear hB13 HB12
          go_wp2
          go_ret
          exact ⟨rfl, HB13.out⟩
    · have hw1 : IntKind.u64.wrap n = (sz : Int) := by rw [IntKind.wrap_u64]; omega
      have tn : decide (n < 0) = false := decide_eq_false (by omega)
      have HZ2 := Lib.hid hsz2
      clear hsz2
      go_wp2_with fail
      refine (HBs.out _).mono ?_
      rintro e w8 ⟨rfl, hB8⟩
      have R8 := Lib.hid (RP.out _ _ z7.out hB8)
      have H12 := Lib.hid (RowAt.new w8 38 (bcells 0))
      have hm1 : w3.heap.size ≠ w8.heap.size := by have := R8.out.2.1.lt; omega
      have hsz1 := R8.out.2.2.2.size
      have hTr : TrioP ((w8.alloc (.cells (bcells 0) 38)).setRow w8.heap.size (bcells sz)) ((w8.alloc (.cells (bcells 0) 38)).setRow w8.heap.size (bcells sz)).heap.size v p q r := by
        have h := R8.out.2.2.1
        have hB9 : Below w8.heap.size w8 ((w8.alloc (.cells (bcells 0) 38)).setRow w8.heap.size (bcells sz)) := below_setRow ((Below.refl w8.heap.size w8).alloc (Nat.le_refl _) _) (Nat.le_refl _) _
        exact (h.below hB9).mono hB9.size
      have U9d : Hid (RowAt (((w8.alloc (.cells (bcells 0) 38)).setRow w8.heap.size (bcells sz)).drewN 1) w3.heap.size 28 #[.int .u64 (p : Int), .int .u64 (q : Int), .int .u64 (r : Int)] ∧ RowAt (((w8.alloc (.cells (bcells 0) 38)).setRow w8.heap.size (bcells sz)).drewN 1) w8.heap.size 38 (bcells sz) ∧ TrioP (((w8.alloc (.cells (bcells 0) 38)).setRow w8.heap.size (bcells sz)).drewN 1) (((w8.alloc (.cells (bcells 0) 38)).setRow w8.heap.size (bcells sz)).drewN 1).heap.size v p q r ∧ Below w.heap.size w (((w8.alloc (.cells (bcells 0) 38)).setRow w8.heap.size (bcells sz)).drewN 1)) := Lib.hid ⟨(R8.out.2.1.alloc _).setRowOther _ _ hm1, H12.out.setRow _, hTr.below (below_drewN (Below.refl _ _) 1), below_drewN (below_setRow (R8.out.2.2.2.alloc hsz1 _) hsz1 _) 1⟩
      have UP : Hid (∀ W W', (RowAt W w3.heap.size 28 #[.int .u64 (p : Int), .int .u64 (q : Int), .int .u64 (r : Int)] ∧ RowAt W w8.heap.size 38 (bcells sz) ∧ TrioP W W.heap.size v p q r ∧ Below w.heap.size w W) → Below W.heap.size W W' → (RowAt W' w3.heap.size 28 #[.int .u64 (p : Int), .int .u64 (q : Int), .int .u64 (r : Int)] ∧ RowAt W' w8.heap.size 38 (bcells sz) ∧ TrioP W' W'.heap.size v p q r ∧ Below w.heap.size w W')) := Lib.hid (fun W W' h hB => ⟨h.1.keep hB, h.2.1.keep hB, (h.2.2.1.below hB).mono hB.size, h.2.2.2.trans (hB.mono h.2.2.2.size)⟩)
      clear R8 hB8 hTr z7 RP HBs
      go_wp2_with (refine wpList_store_row rfl _ _ _ rfl _ _ rfl rfl _ _ (H12.out) size_bits rfl (bcells_one _) ?_)
      generalize (w8.alloc (.cells (bcells 0) 38)).setRow w8.heap.size (bcells sz) = w9 at *
      try simp only [Act.put]
      change (Code.region _ _ true).wp _ _ _ _
      by_cases hlt2 : s2 < N
      case neg =>
        rw [decide_eq_false hlt2] at HLs
        clear hlt2
        refine wp_region_held_drew (S := fun wz => RowAt wz w8.heap.size 38 (bcells sz) ∧ RowAt wz w3.heap.size 28 #[.int .u64 (p : Int), .int .u64 (q : Int), .int .u64 (r : Int)]) (by kernel_rfl) (⟨U9d.out.2.1, U9d.out.1⟩) (fun hHeld => ?_)
        refine wpAnyH_take (i := 0) rfl (by kernel_rfl) (by kernel_rfl) (by kernel_rfl) (fun _ _ _ h => h) (yieldsIf_load_row (by rfl) _ _ rfl _ rfl _ _ _ (fun wz h => h.1) Tryz.underlying38 rfl size_bits) (by assumption) ?_
        try simp only [Act.put, List.getElem_toArray, List.getElem_cons_zero, List.getElem_cons_succ, List.setIfInBounds_toArray, List.set_cons_zero, List.set_cons_succ]
        refine wpAnyH_take (i := 1) rfl (by kernel_rfl) (by kernel_rfl) (by kernel_rfl) (fun _ _ _ h => h) (yieldsIf_load_row (by rfl) _ _ rfl _ rfl _ _ _ (fun wz h => h.1) Tryz.underlying38 rfl size_bits) (by assumption) ?_
        try simp only [Act.put, List.getElem_toArray, List.getElem_cons_zero, List.getElem_cons_succ, List.setIfInBounds_toArray, List.set_cons_zero, List.set_cons_succ]
        refine wpAnyH_take (i := 3) rfl (by kernel_rfl) (by kernel_rfl) (by kernel_rfl) (fun _ _ _ h => h) (yieldsIf_load_row (by rfl) _ _ rfl _ rfl _ _ _ (fun wz h => h.2) Tryz.underlying28 rfl size_w3) (by assumption) ?_
        try simp only [Act.put, List.getElem_toArray, List.getElem_cons_zero, List.getElem_cons_succ, List.setIfInBounds_toArray, List.set_cons_zero, List.set_cons_succ]
        refine wpAnyH_ready (rs := [2]) (by kernel_rfl) (by simp) ?_
        refine AllReadyH.cons rfl (fun K hK => ?_) AllReadyH.nil
        try simp only [List.getElem_toArray, List.getElem_cons_zero, List.getElem_cons_succ]
        rw [if_pos (by rfl)]
        go_wp2_with (go_at_call 20; refine (HSm.out _).mono ?_; rintro e y2 ⟨rfl, hY2⟩)
        have z2 := Lib.hid (UP.out _ _ U9d.out hY2)
        clear hY2
        refine hK.out _ _ (⟨z2.out.2.1, z2.out.1⟩) (fun _ => ?_)
        clear hK K
        try simp only [Act.put, List.getElem_toArray, List.getElem_cons_zero, List.getElem_cons_succ, List.setIfInBounds_toArray, List.set_cons_zero, List.set_cons_succ]
        refine wpAnyH_ready (rs := [4]) (by kernel_rfl) (by simp) ?_
        refine AllReadyH.cons rfl (fun K hK => ?_) AllReadyH.nil
        try simp only [List.getElem_toArray, List.getElem_cons_zero, List.getElem_cons_succ]
        rw [if_pos (by rfl)]
        go_wp2_with (go_at_call 18; refine (HPd.out _).mono ?_; rintro e y4 ⟨rfl, hY4⟩)
        have z4 := Lib.hid (UP.out _ _ z2.out hY4)
        clear hY4
        refine hK.out _ _ (⟨z4.out.2.1, z4.out.1⟩) (fun _ => ?_)
        clear hK K
        try simp only [Act.put, List.getElem_toArray, List.getElem_cons_zero, List.getElem_cons_succ, List.setIfInBounds_toArray, List.set_cons_zero, List.set_cons_succ]
        refine wpAnyH_ready (rs := [5]) (by kernel_rfl) (by simp) ?_
        refine AllReadyH.cons rfl (fun K hK => ?_) AllReadyH.nil
        try simp only [List.getElem_toArray, List.getElem_cons_zero, List.getElem_cons_succ]
        rw [if_pos (by rfl)]
        go_wp2_with (go_at_call 19; refine (HLs.out _).mono ?_; rintro e y5 ⟨rfl, hY5⟩)
        have z5 := Lib.hid (UP.out _ _ z4.out hY5)
        clear hY5
        refine hK.out _ _ (⟨z5.out.2.1, z5.out.1⟩) (fun _ => ?_)
        clear hK K
        try simp only [Act.put, List.getElem_toArray, List.getElem_cons_zero, List.getElem_cons_succ, List.setIfInBounds_toArray, List.set_cons_zero, List.set_cons_succ]
        refine wpAnyH_take (i := 6) (v := ?_) rfl (by kernel_rfl) (by kernel_rfl) (by kernel_rfl) (fun _ _ _ h => h) (Or.inl ⟨by rfl, ?_⟩) ⟨z5.out.2.1, z5.out.1⟩ ?_
        rotate_left
        · intro w hSw; (try dsimp only at hSw); go_simp; try with_reducible rfl
        try simp only [Act.put, List.getElem_toArray, List.getElem_cons_zero, List.getElem_cons_succ, List.setIfInBounds_toArray, List.set_cons_zero, List.set_cons_succ]
        refine wpAnyH_done (by kernel_rfl) ?_ _
        go_wp2
        go_ret
        exact ⟨rfl, z5.out.2.2.2⟩
      rw [decide_eq_true hlt2] at HLs
      have HLT := Lib.hid hlt2
      clear hlt2
      refine wp_region_held_drew (S := fun wz => RowAt wz w8.heap.size 38 (bcells sz) ∧ RowAt wz w3.heap.size 28 #[.int .u64 (p : Int), .int .u64 (q : Int), .int .u64 (r : Int)]) (by kernel_rfl) (⟨U9d.out.2.1, U9d.out.1⟩) (fun hHeld => ?_)
      refine wpAnyH_take (i := 0) rfl (by kernel_rfl) (by kernel_rfl) (by kernel_rfl) (fun _ _ _ h => h) (yieldsIf_load_row (by rfl) _ _ rfl _ rfl _ _ _ (fun wz h => h.1) Tryz.underlying38 rfl size_bits) (by assumption) ?_
      try simp only [Act.put, List.getElem_toArray, List.getElem_cons_zero, List.getElem_cons_succ, List.setIfInBounds_toArray, List.set_cons_zero, List.set_cons_succ]
      refine wpAnyH_take (i := 1) rfl (by kernel_rfl) (by kernel_rfl) (by kernel_rfl) (fun _ _ _ h => h) (yieldsIf_load_row (by rfl) _ _ rfl _ rfl _ _ _ (fun wz h => h.1) Tryz.underlying38 rfl size_bits) (by assumption) ?_
      try simp only [Act.put, List.getElem_toArray, List.getElem_cons_zero, List.getElem_cons_succ, List.setIfInBounds_toArray, List.set_cons_zero, List.set_cons_succ]
      refine wpAnyH_take (i := 3) rfl (by kernel_rfl) (by kernel_rfl) (by kernel_rfl) (fun _ _ _ h => h) (yieldsIf_load_row (by rfl) _ _ rfl _ rfl _ _ _ (fun wz h => h.2) Tryz.underlying28 rfl size_w3) (by assumption) ?_
      try simp only [Act.put, List.getElem_toArray, List.getElem_cons_zero, List.getElem_cons_succ, List.setIfInBounds_toArray, List.set_cons_zero, List.set_cons_succ]
      refine wpAnyH_ready (rs := [2]) (by kernel_rfl) (by simp) ?_
      refine AllReadyH.cons rfl (fun K hK => ?_) AllReadyH.nil
      try simp only [List.getElem_toArray, List.getElem_cons_zero, List.getElem_cons_succ]
      rw [if_pos (by rfl)]
      go_wp2_with (go_at_call 20; refine (HSm.out _).mono ?_; rintro e y2 ⟨rfl, hY2⟩)
      have z2 := Lib.hid (UP.out _ _ U9d.out hY2)
      clear hY2
      refine hK.out _ _ (⟨z2.out.2.1, z2.out.1⟩) (fun _ => ?_)
      clear hK K
      try simp only [Act.put, List.getElem_toArray, List.getElem_cons_zero, List.getElem_cons_succ, List.setIfInBounds_toArray, List.set_cons_zero, List.set_cons_succ]
      refine wpAnyH_ready (rs := [4]) (by kernel_rfl) (by simp) ?_
      refine AllReadyH.cons rfl (fun K hK => ?_) AllReadyH.nil
      try simp only [List.getElem_toArray, List.getElem_cons_zero, List.getElem_cons_succ]
      rw [if_pos (by rfl)]
      go_wp2_with (go_at_call 18; refine (HPd.out _).mono ?_; rintro e y4 ⟨rfl, hY4⟩)
      have z4 := Lib.hid (UP.out _ _ z2.out hY4)
      clear hY4
      refine hK.out _ _ (⟨z4.out.2.1, z4.out.1⟩) (fun _ => ?_)
      clear hK K
      try simp only [Act.put, List.getElem_toArray, List.getElem_cons_zero, List.getElem_cons_succ, List.setIfInBounds_toArray, List.set_cons_zero, List.set_cons_succ]
      refine wpAnyH_ready (rs := [5]) (by kernel_rfl) (by simp) ?_
      refine AllReadyH.cons rfl (fun K hK => ?_) AllReadyH.nil
      try simp only [List.getElem_toArray, List.getElem_cons_zero, List.getElem_cons_succ]
      rw [if_pos (by rfl)]
      go_wp2_with (go_at_call 19; refine (HLs.out _).mono ?_; rintro e y5 ⟨rfl, hY5⟩)
      have z5 := Lib.hid (UP.out _ _ z4.out hY5)
      clear hY5
      refine hK.out _ _ (⟨z5.out.2.1, z5.out.1⟩) (fun _ => ?_)
      clear hK K
      try simp only [Act.put, List.getElem_toArray, List.getElem_cons_zero, List.getElem_cons_succ, List.setIfInBounds_toArray, List.set_cons_zero, List.set_cons_succ]
      refine wpAnyH_take (i := 6) (v := ?_) rfl (by kernel_rfl) (by kernel_rfl) (by kernel_rfl) (fun _ _ _ h => h) (Or.inl ⟨by rfl, ?_⟩) ⟨z5.out.2.1, z5.out.1⟩ ?_
      rotate_left
      · intro w hSw; (try dsimp only at hSw); go_simp; try with_reducible rfl
      try simp only [Act.put, List.getElem_toArray, List.getElem_cons_zero, List.getElem_cons_succ, List.setIfInBounds_toArray, List.set_cons_zero, List.set_cons_succ]
      refine wpAnyH_done (by kernel_rfl) ?_ _
      obtain ⟨nn, hnn⟩ : ∃ nn, nn = w3n (sgnR sz p false) (sgnR sz q false) (sgnR sz r false) := ⟨_, rfl⟩
      have hp0 : 0 < p := by have := HT.out.p3; omega
      have hq0 : 0 < q := by have := HT.out.q3; omega
      have hr0 : 0 < r := by have := HT.out.r3; omega
      have sp := sgnR_lt (sz := sz) (ng := false) hp0
      have sq := sgnR_lt (sz := sz) (ng := false) hq0
      have sr := sgnR_lt (sz := sz) (ng := false) hr0
      have HI : Hid (∀ i, i < 3 → pk p q r i ≠ 0 ∧ pk p q r i < 18446744073709551616 ∧ wd nn i = sgnR sz (pk p q r i) false ∧ (#[.int .u64 (p : Int), .int .u64 (q : Int), .int .u64 (r : Int)] : Array Value)[i]? = some (.int .u64 ((pk p q r i : Nat) : Int))) := Lib.hid (fun i hi => by
        refine ⟨?_, ?_, ?_, ?_⟩
        · unfold pk; split <;> (try split) <;> omega
        · unfold pk; split <;> (try split) <;> omega
        · rw [hnn, wd_w3n (by omega) (by omega) (by omega) i hi]
          match i, hi with
          | 0, _ => rfl
          | 1, _ => rfl
          | 2, _ => rfl
        · match i, hi with
          | 0, _ => rfl
          | 1, _ => rfl
          | 2, _ => rfl)
      have HE : Hid (nn % 18446744073709551616 ^ 3 = nn) := Lib.hid (by rw [hnn]; exact w3n_mod (by omega) (by omega) (by omega))
      have HNN := Lib.hid hnn
      have V0 : Hid (RowAt (y5.alloc (.cells #[.int .u64 0, .int .u64 0, .int .u64 0] 28)) y5.heap.size 28 (three (nn % 18446744073709551616 ^ 0)) ∧ TrioP (y5.alloc (.cells #[.int .u64 0, .int .u64 0, .int .u64 0] 28)) (y5.alloc (.cells #[.int .u64 0, .int .u64 0, .int .u64 0] 28)).heap.size v p q r ∧ Below w.heap.size w (y5.alloc (.cells #[.int .u64 0, .int .u64 0, .int .u64 0] 28))) := Lib.hid ⟨by rw [Nat.pow_zero, Nat.mod_one]; exact RowAt.new y5 _ _, (z5.out.2.2.1.below ((Below.refl y5.heap.size y5).alloc (Nat.le_refl _) _)).mono (by simp), z5.out.2.2.2.alloc z5.out.2.2.2.size _⟩
      have P5 := Lib.hid (z5.out.1.alloc (.cells #[.int .u64 0, .int .u64 0, .int .u64 0] 28))
      have hle5 := z5.out.2.2.2.size
      clear sp sq sr hnn z2 z4 z5 U9d UP HPd HSm HLs
      go_wp2_with (refine wpList_load_row rfl _ _ rfl _ rfl _ _ _ _ (P5.out) Tryz.underlying28 rfl (by exact size_w3) ?_)
      generalize y5.alloc (.cells #[.int .u64 0, .int .u64 0, .int .u64 0] 28) = w10 at *
      go_loopw [55] (fun I wr => ∃ i : Nat, I = .int .i64 i ∧ i ≤ 3 ∧ Hid (RowAt wr y5.heap.size 28 (three (nn % 18446744073709551616 ^ i)) ∧ TrioP wr wr.heap.size v p q r ∧ Below w.heap.size w wr)) (fun I _ => 3 - (intOf I).toNat)
      case atStart => exact ⟨0, rfl, by omega, V0⟩
      case round =>
        clear V0 P5
        obtain ⟨i, rfl, hi, V⟩ := hrel
        by_cases hlt : i < 3
        · have f0 : (0 : Int) ≤ (i : Int) := by omega
          have f1 : (i : Int) < 3 := by omega
          obtain ⟨m0, m1, hwd, hpm⟩ := HI.out i hlt
          have hix : ∀ W, (Instr.index 28 (.agg #[.int .u64 (p : Int), .int .u64 (q : Int), .int .u64 (r : Int)]) (.int .i64 (i : Int))).run Tryz.prog W = .ok (.int .u64 ((pk p q r i : Nat) : Int)) W := fun W => run_index_row _ _ _ _ _ _ _ Tryz.underlying28 rfl Tryz.underlying22 (by kernel_rfl) hlt hpm W
          have e0 := V.out.1.cell (three_get _ i hlt)
          have e1 := V.out.1.frozen i
          have hst := three_next (n := nn) hlt
          rw [hwd] at hst
          obtain ⟨m, hm⟩ : ∃ m, m = pk p q r i := ⟨_, rfl⟩
          rw [← hm] at hix m0 m1 hst
          obtain ⟨u1, hu1⟩ : ∃ u, u = sz % m := ⟨_, rfl⟩
          have hul : u1 < m := by rw [hu1]; exact Nat.mod_lt _ (by omega)
          obtain ⟨z, hz9⟩ : ∃ z, z = sgnR sz m false := ⟨_, rfl⟩
          rw [← hz9] at hst
          unfold sgnR at hz9
          rw [← hu1] at hz9
          have vr : (sz : Int) % (m : Int) = (u1 : Int) := by rw [hu1]; rfl
          have tm : ((m : Int) == 0) = false := by simp; omega
          have HST := Lib.hid hst
          have TS1 : Hid (TrioP (wr.setCell ⟨y5.heap.size, i, none⟩ (.int .u64 (u1 : Int))) (wr.setCell ⟨y5.heap.size, i, none⟩ (.int .u64 (u1 : Int))).heap.size v p q r) := Lib.hid (V.out.2.1.setCell V.out.1 i _)
          have TS : Hid (∀ k : Int, TrioP ((wr.setCell ⟨y5.heap.size, i, none⟩ (.int .u64 (u1 : Int))).setCell ⟨y5.heap.size, i, none⟩ (.int .u64 k)) ((wr.setCell ⟨y5.heap.size, i, none⟩ (.int .u64 (u1 : Int))).setCell ⟨y5.heap.size, i, none⟩ (.int .u64 k)).heap.size v p q r) := Lib.hid (fun k => by
            have h1 := V.out.1.set i (.int .u64 (u1 : Int))
            obtain ⟨m', hm'⟩ := three_cells (nn % 18446744073709551616 ^ i) i u1 hlt (by omega)
            rw [hm'] at h1
            exact TS1.out.setCell h1 i _)
          clear hm hu1 hst hwd hpm
          have hz0 : z = u1 := by rw [hz9, if_neg (by simp)]
          have V' : Hid (RowAt (wr.setCell ⟨y5.heap.size, i, none⟩ (.int .u64 (u1 : Int))) y5.heap.size 28 (three (nn % 18446744073709551616 ^ (i + 1))) ∧ TrioP (wr.setCell ⟨y5.heap.size, i, none⟩ (.int .u64 (u1 : Int))) (wr.setCell ⟨y5.heap.size, i, none⟩ (.int .u64 (u1 : Int))).heap.size v p q r ∧ Below w.heap.size w (wr.setCell ⟨y5.heap.size, i, none⟩ (.int .u64 (u1 : Int)))) := Lib.hid ⟨by
            have h := V.out.1.set i (.int .u64 (u1 : Int))
            rw [← hz0, HST.out] at h; rw [← hz0]; exact h, TS1.out, below_setCell V.out.2.2 hle5 i _⟩
          clear V TS HST hz9 hz0
          go_wp2
          go_roundw
          case rel => exact ⟨i + 1, by go_num, by omega, V'⟩
          case measure => simp [intOf]; omega
        · obtain rfl : i = 3 := by omega
          have r3 := V.out.1
          rw [HE.out] at r3
          have HNb := Lib.hid r3
          have HB9 := Lib.hid V.out.2.2
          have hJ := tjoin_yes V.out.2.1 HT.out (sgnR sz p false) (sgnR sz q false) (sgnR sz r false) (by have := sgnR_lt (sz := sz) (ng := false) hp0; omega) (by have := sgnR_lt (sz := sz) (ng := false) hq0; omega) (by have := sgnR_lt (sz := sz) (ng := false) hr0; omega)
          rw [← HNN.out] at hJ
          have HJ := Lib.hid hJ
          have HTr := Lib.hid V.out.2.1
          have HOf : Hid (∀ W, Calls Tryz.prog 22 #[.int .i64 n] W fun e w' => e = .returned (.agg (three sz)) ∧ Below W.heap.size W w') := Lib.hid (fun W => by
            have h := lof_any n hn0 hn1 W
            rw [show (n % 6277101735386680763835789423207666416102355444464034512896).toNat = sz by have := HZ2.out; omega] at h
            exact h)
          clear hJ r3 V
          go_wp2_with (refine wpList_load_row rfl _ _ rfl _ rfl _ _ _ _ (HNb.out) Tryz.underlying28 rfl (by exact size_w3) ?_)
          refine HJ.out.mono ?_
          rintro e w11 ⟨j, rfl, j0, j1, j2, j3, hB11⟩
          rw [← HN.out] at j0
          have hfin := centre_pos (sz := sz) HT.out HN.out j0 (by have := HS2.out; have := HLT.out; omega) (by rw [j1, sgnR_pos, Nat.mod_mod]) (by rw [j2, sgnR_pos, Nat.mod_mod]) (by rw [j3, sgnR_pos, Nat.mod_mod])
          have HC2 := Lib.hid (HCe.out j (by omega) w11 ((HTr.out.below hB11).mono hB11.size))
          rw [hfin] at HC2
          have HB11 := Lib.hid (HB9.out.trans (hB11.mono HB9.out.size))
          obtain ⟨Ee, hE⟩ : ∃ Ee, Ee = sz := ⟨_, rfl⟩
          rw [← hE] at HC2 HOf
          have qe := eqn_three Ee Ee (by have := HZ2.out; omega) (by have := HZ2.out; omega)
          rw [decide_eq_true (rfl : Ee = Ee)] at qe
          clear hfin j0 j1 j2 j3 hB11 hE HJ
          go_wp2_with fail
          refine HC2.out.mono ?_
          rintro e w12 ⟨rfl, hB12⟩
          have HB12 := Lib.hid (HB11.out.trans (hB12.mono HB11.out.size))
          clear hB12 HC2 HB11
          go_wp2_with fail
          refine (HOf.out _).mono ?_
          rintro e w13 ⟨rfl, hB13⟩
          have HB13 := Lib.hid (HB12.out.trans (hB13.mono HB12.out.size))
          clear hB13 HB12
          go_wp2
          go_ret
          exact ⟨rfl, HB13.out⟩
  · have HB4 := Lib.hid K4.out.2.2.2
    clear K4 KP her hno
    go_wp2_with (refine wpList_store_row rfl _ _ _ rfl _ #[.int .u64 (p : Int), .int .u64 (q : Int), .int .u64 (r : Int)] rfl rfl _ _ (H6.out) size_w3 rfl (one3 _ _ _) ?_)
    go_ret
    exact ⟨rfl, HB4.out⟩
end Go.Proofs.YtjjfiidgjiekpaaGreat
