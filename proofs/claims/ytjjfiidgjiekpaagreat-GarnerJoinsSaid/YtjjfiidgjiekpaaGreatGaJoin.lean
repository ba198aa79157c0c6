/- The law GarnerJoins. -/
import Derived.Test.YtjjfiidgjiekpaaGreatWG23AG23BGaM
set_option linter.unusedVariables false
set_option linter.unusedSimpArgs false
set_option linter.unusedSectionVars false
set_option linter.unusedVariables false
set_option linter.unusedSimpArgs false
namespace Go.Proofs.YtjjfiidgjiekpaaGreat
open Go.RowKit
open Alg (Prime)
set_option maxHeartbeats 8000000 in
set_option maxRecDepth 100000 in
theorem garnerJoins_walk (w : World) (Aa : Option Addr) (ca : Nat) (kinda kka ppa : Int) (esa : List Ent) (Ab : Option Addr) (cb : Nat) (kindb kkb ppb : Int) (esb : List Ent) (Ac : Option Addr) (cc : Nat) (kindc kkc ppc : Int) (esc : List Ent) (a b c x : Nat) (hsa : SrcA w Aa ca kinda kka ppa esa) (hsb : SrcA w Ab cb kindb kkb ppb esb) (hsc : SrcA w Ac cc kindc kkc ppc esc) (ha : a < 18446744073709551616) (hb : b < 18446744073709551616) (hc : c < 18446744073709551616) (hx : x < 6277101735386680763835789423207666416102355444464034512896) :
    Calls Tryz.prog 5 #[.agg #[.int .i64 kinda, .int .i64 kka, .int .u64 ppa, .slice Aa esa.length ca, .int .i64 kindb, .int .i64 kkb, .int .u64 ppb, .slice Ab esb.length cb, .int .i64 kindc, .int .i64 kkc, .int .u64 ppc, .slice Ac esc.length cc], .agg (three (w3n a b c)), .agg (three x)] w fun e w' => e = .returned (.bool true) ∧ Below w.heap.size w w' := by
  have R0 := Lib.hid (lay3 w 27 28 29 #[.int .i64 kinda, .int .i64 kka, .int .u64 ppa, .slice Aa esa.length ca, .int .i64 kindb, .int .i64 kkb, .int .u64 ppb, .slice Ab esb.length cb, .int .i64 kindc, .int .i64 kkc, .int .u64 ppc, .slice Ac esc.length cc] (three (w3n a b c)) (three x))
  have HSa := Lib.hid hsa
  have HSb := Lib.hid hsb
  have HSc := Lib.hid hsc
  have hz : ∀ w, (zeroValue 29).run Tryz.prog w = .ok (.agg #[.int .u64 0, .int .u64 0, .int .u64 0]) w := (zero_of_info info_three).1
  have hz3 : ∀ w, (zeroValue 28).run Tryz.prog w = .ok (.agg #[.int .u64 0, .int .u64 0, .int .u64 0]) w := (zero_of_info info_w3).1
  clear hsa hsb hsc
  go_enter Tryz.func5, Tryz.ntmps5
  go_wp2_with fail
  generalize (((w.alloc (.cells #[.int .i64 kinda, .int .i64 kka, .int .u64 ppa, .slice Aa esa.length ca, .int .i64 kindb, .int .i64 kkb, .int .u64 ppb, .slice Ab esb.length cb, .int .i64 kindc, .int .i64 kkc, .int .u64 ppc, .slice Ac esc.length cc] 27)).alloc (.cells (three (w3n a b c)) 28)).alloc (.cells (three x) 29)) = w1 at *
  refine (alive23_any w1).mono ?_
  rintro e w2 ⟨rfl, hB2⟩
  have R2 : Hid (RowAt w2 w.heap.size 27 #[.int .i64 kinda, .int .i64 kka, .int .u64 ppa, .slice Aa esa.length ca, .int .i64 kindb, .int .i64 kkb, .int .u64 ppb, .slice Ab esb.length cb, .int .i64 kindc, .int .i64 kkc, .int .u64 ppc, .slice Ac esc.length cc] ∧ RowAt w2 (w.heap.size + 1) 28 (three (w3n a b c)) ∧ RowAt w2 (w.heap.size + 1 + 1) 29 (three x) ∧ Below w.heap.size w w2) := Lib.hid ⟨R0.out.1.keep hB2, R0.out.2.1.keep hB2, R0.out.2.2.1.keep hB2, R0.out.2.2.2.trans (hB2.mono R0.out.2.2.2.size)⟩
  clear hB2 R0
  go_wp2_with (refine wpList_load_row rfl _ _ rfl _ rfl _ _ _ _ (R2.out.1) Tryz.underlying27 rfl (by exact size_threes) ?_)
  refine (trio_any w2 Aa ca kinda kka ppa esa Ab cb kindb kkb ppb esb Ac cc kindc kkc ppc esc (HSa.out.below R2.out.2.2.2) (HSb.out.below R2.out.2.2.2) (HSc.out.below R2.out.2.2.2)).mono ?_
  rintro e w3 ⟨v, p, q, r, er, ok, rfl, hTR, hB3⟩
  have hw3 : ∀ k, w.heap.size + k < w2.heap.size → w.heap.size + k ≠ w3.heap.size := fun k hk => by have := hB3.size; omega
  have hl0 := R2.out.2.2.1.lt
  have hl1 := R2.out.2.2.2.size
  have hl2 := hB3.size
  have H6 := Lib.hid (RowAt.new w3 28 #[.int .u64 0, .int .u64 0, .int .u64 0])
  have hTR4 : TR (w3.alloc (.cells #[.int .u64 0, .int .u64 0, .int .u64 0] 28)) v p q r er ok := hTR.keep ((Below.refl w3.heap.size w3).alloc (Nat.le_refl _) _)
  have K4 : Hid (RowAt ((w3.alloc (.cells #[.int .u64 0, .int .u64 0, .int .u64 0] 28)).setRow w3.heap.size #[.int .u64 (p : Int), .int .u64 (q : Int), .int .u64 (r : Int)]) (w.heap.size + 1) 28 (three (w3n a b c)) ∧ RowAt ((w3.alloc (.cells #[.int .u64 0, .int .u64 0, .int .u64 0] 28)).setRow w3.heap.size #[.int .u64 (p : Int), .int .u64 (q : Int), .int .u64 (r : Int)]) (w.heap.size + 1 + 1) 29 (three x) ∧ RowAt ((w3.alloc (.cells #[.int .u64 0, .int .u64 0, .int .u64 0] 28)).setRow w3.heap.size #[.int .u64 (p : Int), .int .u64 (q : Int), .int .u64 (r : Int)]) w3.heap.size 28 #[.int .u64 (p : Int), .int .u64 (q : Int), .int .u64 (r : Int)] ∧ TR ((w3.alloc (.cells #[.int .u64 0, .int .u64 0, .int .u64 0] 28)).setRow w3.heap.size #[.int .u64 (p : Int), .int .u64 (q : Int), .int .u64 (r : Int)]) v p q r er ok ∧ Below w.heap.size w ((w3.alloc (.cells #[.int .u64 0, .int .u64 0, .int .u64 0] 28)).setRow w3.heap.size #[.int .u64 (p : Int), .int .u64 (q : Int), .int .u64 (r : Int)])) := Lib.hid ⟨((R2.out.2.1.keep hB3).alloc _).setRowOther _ _ (by omega), ((R2.out.2.2.1.keep hB3).alloc _).setRowOther _ _ (by omega), H6.out.setRow _, hTR4.setRow (m := 0) H6.out _, below_setRow ((R2.out.2.2.2.trans (hB3.mono hl1)).alloc (by omega) _) (by omega) _⟩
  clear hTR hTR4 hB3 R2
  have KP : Hid (∀ W W', (RowAt W (w.heap.size + 1) 28 (three (w3n a b c)) ∧ RowAt W (w.heap.size + 1 + 1) 29 (three x) ∧ RowAt W w3.heap.size 28 #[.int .u64 (p : Int), .int .u64 (q : Int), .int .u64 (r : Int)] ∧ TR W v p q r er ok ∧ Below w.heap.size w W) → Below W.heap.size W W' → (RowAt W' (w.heap.size + 1) 28 (three (w3n a b c)) ∧ RowAt W' (w.heap.size + 1 + 1) 29 (three x) ∧ RowAt W' w3.heap.size 28 #[.int .u64 (p : Int), .int .u64 (q : Int), .int .u64 (r : Int)] ∧ TR W' v p q r er ok ∧ Below w.heap.size w W')) := Lib.hid (fun W W' h hB => ⟨h.1.keep hB, h.2.1.keep hB, h.2.2.1.keep hB, h.2.2.2.1.keep hB, h.2.2.2.2.trans (hB.mono h.2.2.2.2.size)⟩)
  obtain ⟨hp, hq, hr, ⟨rfl, rfl, hT, hV⟩ | ⟨rfl, rfl, her, hno⟩⟩ := K4.out.2.2.2.1
  · have HT := Lib.hid hT
    have HV := Lib.hid hV
    clear hV hT
    go_wp2_with (first | (refine wpList_store_row rfl _ _ _ rfl _ #[.int .u64 (p : Int), .int .u64 (q : Int), .int .u64 (r : Int)] rfl rfl _ _ (H6.out) size_w3 rfl (one3 _ _ _) ?_; generalize hW4 : (w3.alloc (.cells #[.int .u64 0, .int .u64 0, .int .u64 0] 28)).setRow w3.heap.size #[.int .u64 (p : Int), .int .u64 (q : Int), .int .u64 (r : Int)] = w4 at *) | (refine wpList_load_row rfl _ _ rfl _ rfl _ _ _ _ (K4.out.1) Tryz.underlying28 rfl size_w3 ?_))
    refine (tjoin_yes HV.out HT.out a b c ha hb hc).mono ?_
    rintro e w6 ⟨j, rfl, j0, j1, j2, j3, hB6⟩
    have K6 := Lib.hid (KP.out _ _ K4.out hB6)
    have HV6 := Lib.hid ((HV.out.below hB6).mono hB6.size)
    have H9 := Lib.hid (RowAt.new w6 29 #[.int .u64 0, .int .u64 0, .int .u64 0])
    have hne1 : w.heap.size + 1 ≠ w6.heap.size := by have := K6.out.1.lt; omega
    have hne1' : w.heap.size + 1 + 1 ≠ w6.heap.size := by have := K6.out.2.1.lt; omega
    have hne2 : w3.heap.size ≠ w6.heap.size := by have := K6.out.2.2.1.lt; omega
    have hsz0 := K6.out.2.2.2.2.size
    have R8 : Hid (RowAt ((w6.alloc (.cells #[.int .u64 0, .int .u64 0, .int .u64 0] 29)).setRow w6.heap.size (three j)) (w.heap.size + 1) 28 (three (w3n a b c)) ∧ RowAt ((w6.alloc (.cells #[.int .u64 0, .int .u64 0, .int .u64 0] 29)).setRow w6.heap.size (three j)) (w.heap.size + 1 + 1) 29 (three x) ∧ RowAt ((w6.alloc (.cells #[.int .u64 0, .int .u64 0, .int .u64 0] 29)).setRow w6.heap.size (three j)) w3.heap.size 28 #[.int .u64 (p : Int), .int .u64 (q : Int), .int .u64 (r : Int)] ∧ RowAt ((w6.alloc (.cells #[.int .u64 0, .int .u64 0, .int .u64 0] 29)).setRow w6.heap.size (three j)) w6.heap.size 29 (three j) ∧ TrioP ((w6.alloc (.cells #[.int .u64 0, .int .u64 0, .int .u64 0] 29)).setRow w6.heap.size (three j)) ((w6.alloc (.cells #[.int .u64 0, .int .u64 0, .int .u64 0] 29)).setRow w6.heap.size (three j)).heap.size v p q r ∧ Below w.heap.size w ((w6.alloc (.cells #[.int .u64 0, .int .u64 0, .int .u64 0] 29)).setRow w6.heap.size (three j))) := Lib.hid ⟨(K6.out.1.alloc _).setRowOther _ _ hne1, (K6.out.2.1.alloc _).setRowOther _ _ hne1', (K6.out.2.2.1.alloc _).setRowOther _ _ hne2, H9.out.setRow _, by
      rw [size_setRow]
      exact TrioP.setRow (m := 0) ((HV6.out.below ((Below.refl w6.heap.size w6).alloc (Nat.le_refl _) _)).mono (by simp)) H9.out _, below_setRow (K6.out.2.2.2.2.alloc hsz0 _) hsz0 _⟩
    have RP : Hid (∀ W W', (RowAt W (w.heap.size + 1) 28 (three (w3n a b c)) ∧ RowAt W (w.heap.size + 1 + 1) 29 (three x) ∧ RowAt W w3.heap.size 28 #[.int .u64 (p : Int), .int .u64 (q : Int), .int .u64 (r : Int)] ∧ RowAt W w6.heap.size 29 (three j) ∧ TrioP W W.heap.size v p q r ∧ Below w.heap.size w W) → Below W.heap.size W W' → (RowAt W' (w.heap.size + 1) 28 (three (w3n a b c)) ∧ RowAt W' (w.heap.size + 1 + 1) 29 (three x) ∧ RowAt W' w3.heap.size 28 #[.int .u64 (p : Int), .int .u64 (q : Int), .int .u64 (r : Int)] ∧ RowAt W' w6.heap.size 29 (three j) ∧ TrioP W' W'.heap.size v p q r ∧ Below w.heap.size w W')) := Lib.hid (fun W W' h hB => ⟨h.1.keep hB, h.2.1.keep hB, h.2.2.1.keep hB, h.2.2.2.1.keep hB, (h.2.2.2.2.1.below hB).mono hB.size, h.2.2.2.2.2.trans (hB.mono h.2.2.2.2.2.size)⟩)
    obtain ⟨n0, n1⟩ := HT.out.lt
    have hj : j < 6277101735386680763835789423207666416102355444464034512896 := by omega
    have HBj : Hid (∀ W, Calls Tryz.prog 17 #[.agg (three j)] W fun e w' => e = .returned (.agg (bcells j)) ∧ Below W.heap.size W w') := Lib.hid (fun W => bits23_any j hj W)
    have HBx : Hid (∀ W, Calls Tryz.prog 17 #[.agg (three x)] W fun e w' => e = .returned (.agg (bcells x)) ∧ Below W.heap.size W w') := Lib.hid (fun W => bits23_any x hx W)
    have HPd : Hid (∀ W, Calls Tryz.prog 18 #[.agg #[.int .u64 (p : Int), .int .u64 (q : Int), .int .u64 (r : Int)]] W fun e w' => e = .returned (.agg (bcells (p * q * r))) ∧ Below W.heap.size W w') := Lib.hid (fun W => product23_any p q r (by omega) (by omega) (by omega) W)
    have HLs : Hid (∀ W, Calls Tryz.prog 19 #[.agg (bcells j), .agg (bcells (p * q * r))] W fun e w' => e = .returned (.bool true) ∧ Below W.heap.size W w') := Lib.hid (fun W => by
      have h := r1less_any j (p * q * r) (by omega) (by omega) W
      rw [decide_eq_true j0] at h; exact h)
    obtain ⟨N, hN⟩ : ∃ N, N = p * q * r := ⟨_, rfl⟩
    rw [← hN] at HPd HLs
    have hxp := Nat.mod_lt x (show 0 < p by have := HT.out.p3; omega)
    have hxq := Nat.mod_lt x (show 0 < q by have := HT.out.q3; omega)
    have hxr := Nat.mod_lt x (show 0 < r by have := HT.out.r3; omega)
    have HI : Hid (∀ i, i < 3 → pk p q r i ≠ 0 ∧ pk p q r i < 18446744073709551616 ∧ j % pk p q r i = pk a b c i % pk p q r i ∧ wd (w3n (x % p) (x % q) (x % r)) i = x % pk p q r i ∧ wd (w3n a b c) i = pk a b c i ∧ (#[.int .u64 (p : Int), .int .u64 (q : Int), .int .u64 (r : Int)] : Array Value)[i]? = some (.int .u64 ((pk p q r i : Nat) : Int))) := Lib.hid (fun i hi => by
      have h1 := HT.out.p3
      have h2 := HT.out.q3
      have h3 := HT.out.r3
      refine ⟨?_, ?_, ?_, ?_, wd_w3n ha hb hc i hi, ?_⟩
      · unfold pk; split <;> (try split) <;> omega
      · unfold pk; split <;> (try split) <;> omega
      · match i, hi with
        | 0, _ => exact j1
        | 1, _ => exact j2
        | 2, _ => exact j3
      · rw [wd_w3n (by omega) (by omega) (by omega) i hi]
        match i, hi with
        | 0, _ => rfl
        | 1, _ => rfl
        | 2, _ => rfl
      · match i, hi with
        | 0, _ => rfl
        | 1, _ => rfl
        | 2, _ => rfl)
    have HSx : Hid (∀ W, TrioP W W.heap.size v p q r → Calls Tryz.prog 26 #[v, .agg (three x)] W fun e w' => e = .returned (.agg (three (w3n (x % p) (x % q) (x % r)))) ∧ Below W.heap.size W w') := Lib.hid (fun W h => tsplit_yes h HT.out x hx)
    obtain ⟨n, hn⟩ : ∃ n, n = w3n (x % p) (x % q) (x % r) := ⟨_, rfl⟩
    rw [← hn] at HSx HI
    have hjb : j < 2 ^ 256 := by omega
    have hxb : x < 2 ^ 256 := by omega
    have HRs : Hid (∀ (y m : Nat), y < 2 ^ 256 → m < 18446744073709551616 → m ≠ 0 → ∀ W, Calls Tryz.prog 29 #[.agg (bcells y), .int .u64 (m : Int)] W fun e w' => e = .returned (.int .u64 ((y % m : Nat) : Int)) ∧ Below W.heap.size W w') := Lib.hid (fun y m hy hm h0 W => by
      have h := r1rest_any y m hy hm W
      rw [if_neg h0] at h; exact h)
    have HJB := Lib.hid (And.intro hjb hxb)
    clear hxp hxq hxr hn K4 hN j1 j2 j3 j0 n0 n1 hB6 HV hjb hxb
    go_wp2_with (refine wpList_store_row rfl _ _ _ rfl _ _ rfl rfl _ _ (H9.out) size_three rfl (three_one _) ?_)
    have R8d : Hid (RowAt (((w6.alloc (.cells #[.int .u64 0, .int .u64 0, .int .u64 0] 29)).setRow w6.heap.size (three j)).drewN 1) (w.heap.size + 1) 28 (three (w3n a b c)) ∧ RowAt (((w6.alloc (.cells #[.int .u64 0, .int .u64 0, .int .u64 0] 29)).setRow w6.heap.size (three j)).drewN 1) (w.heap.size + 1 + 1) 29 (three x) ∧ RowAt (((w6.alloc (.cells #[.int .u64 0, .int .u64 0, .int .u64 0] 29)).setRow w6.heap.size (three j)).drewN 1) w3.heap.size 28 #[.int .u64 (p : Int), .int .u64 (q : Int), .int .u64 (r : Int)] ∧ RowAt (((w6.alloc (.cells #[.int .u64 0, .int .u64 0, .int .u64 0] 29)).setRow w6.heap.size (three j)).drewN 1) w6.heap.size 29 (three j) ∧ TrioP (((w6.alloc (.cells #[.int .u64 0, .int .u64 0, .int .u64 0] 29)).setRow w6.heap.size (three j)).drewN 1) (((w6.alloc (.cells #[.int .u64 0, .int .u64 0, .int .u64 0] 29)).setRow w6.heap.size (three j)).drewN 1).heap.size v p q r ∧ Below w.heap.size w (((w6.alloc (.cells #[.int .u64 0, .int .u64 0, .int .u64 0] 29)).setRow w6.heap.size (three j)).drewN 1)) := Lib.hid ⟨R8.out.1, R8.out.2.1, R8.out.2.2.1, R8.out.2.2.2.1, R8.out.2.2.2.2.1.below (below_drewN (Below.refl _ _) 1), below_drewN R8.out.2.2.2.2.2 1⟩
    generalize (w6.alloc (.cells #[.int .u64 0, .int .u64 0, .int .u64 0] 29)).setRow w6.heap.size (three j) = w7 at *
    try simp only [Act.put]
    change (Code.region _ _ true).wp _ _ _ _
    refine wp_region_held_drew (S := fun wz => RowAt wz w3.heap.size 28 #[.int .u64 (p : Int), .int .u64 (q : Int), .int .u64 (r : Int)] ∧ RowAt wz w6.heap.size 29 (three j)) (by kernel_rfl) (⟨R8d.out.2.2.1, R8d.out.2.2.2.1⟩) (fun hHeld => ?_)
    refine wpAnyH_take (i := 0) rfl (by kernel_rfl) (by kernel_rfl) (by kernel_rfl) (fun _ _ _ h => h) (yieldsIf_load_row (by rfl) _ _ rfl _ rfl _ _ _ (fun wz h => h.2) Tryz.underlying29 rfl size_three) (by assumption) ?_
    try simp only [Act.put, List.getElem_toArray, List.getElem_cons_zero, List.getElem_cons_succ, List.setIfInBounds_toArray, List.set_cons_zero, List.set_cons_succ]
    refine wpAnyH_take (i := 2) rfl (by kernel_rfl) (by kernel_rfl) (by kernel_rfl) (fun _ _ _ h => h) (yieldsIf_load_row (by rfl) _ _ rfl _ rfl _ _ _ (fun wz h => h.1) Tryz.underlying28 rfl size_w3) (by assumption) ?_
    try simp only [Act.put, List.getElem_toArray, List.getElem_cons_zero, List.getElem_cons_succ, List.setIfInBounds_toArray, List.set_cons_zero, List.set_cons_succ]
    refine wpAnyH_ready (rs := [1]) (by kernel_rfl) (by simp) ?_
    refine AllReadyH.cons rfl (fun K hK => ?_) AllReadyH.nil
    try simp only [List.getElem_toArray, List.getElem_cons_zero, List.getElem_cons_succ]
    rw [if_pos (by rfl)]
    go_wp2_with (go_at_call 17; refine (HBj.out _).mono ?_; rintro e y1 ⟨rfl, hY1⟩)
    have z1 := Lib.hid (RP.out _ _ R8d.out hY1)
    clear hY1
    refine hK.out _ _ (⟨z1.out.2.2.1, z1.out.2.2.2.1⟩) (fun _ => ?_)
    clear hK K
    try simp only [Act.put, List.getElem_toArray, List.getElem_cons_zero, List.getElem_cons_succ, List.setIfInBounds_toArray, List.set_cons_zero, List.set_cons_succ]
    refine wpAnyH_ready (rs := [3]) (by kernel_rfl) (by simp) ?_
    refine AllReadyH.cons rfl (fun K hK => ?_) AllReadyH.nil
    try simp only [List.getElem_toArray, List.getElem_cons_zero, List.getElem_cons_succ]
    rw [if_pos (by rfl)]
    go_wp2_with (go_at_call 18; refine (HPd.out _).mono ?_; rintro e y3 ⟨rfl, hY3⟩)
    have z3 := Lib.hid (RP.out _ _ z1.out hY3)
    clear hY3
    refine hK.out _ _ (⟨z3.out.2.2.1, z3.out.2.2.2.1⟩) (fun _ => ?_)
    clear hK K
    try simp only [Act.put, List.getElem_toArray, List.getElem_cons_zero, List.getElem_cons_succ, List.setIfInBounds_toArray, List.set_cons_zero, List.set_cons_succ]
    refine wpAnyH_ready (rs := [4]) (by kernel_rfl) (by simp) ?_
    refine AllReadyH.cons rfl (fun K hK => ?_) AllReadyH.nil
    try simp only [List.getElem_toArray, List.getElem_cons_zero, List.getElem_cons_succ]
    rw [if_pos (by rfl)]
    go_wp2_with (go_at_call 19; refine (HLs.out _).mono ?_; rintro e y4 ⟨rfl, hY4⟩)
    have z4 := Lib.hid (RP.out _ _ z3.out hY4)
    clear hY4
    refine hK.out _ _ (⟨z4.out.2.2.1, z4.out.2.2.2.1⟩) (fun _ => ?_)
    clear hK K
    try simp only [Act.put, List.getElem_toArray, List.getElem_cons_zero, List.getElem_cons_succ, List.setIfInBounds_toArray, List.set_cons_zero, List.set_cons_succ]
    refine wpAnyH_take (i := 5) (v := ?_) rfl (by kernel_rfl) (by kernel_rfl) (by kernel_rfl) (fun _ _ _ h => h) (Or.inl ⟨by rfl, ?_⟩) ⟨z4.out.2.2.1, z4.out.2.2.2.1⟩ ?_
    rotate_left
    · intro w hSw; (try dsimp only at hSw); go_simp; try with_reducible rfl
    try simp only [Act.put, List.getElem_toArray, List.getElem_cons_zero, List.getElem_cons_succ, List.setIfInBounds_toArray, List.set_cons_zero, List.set_cons_succ]
    refine wpAnyH_done (by kernel_rfl) ?_ _
    go_wp2_with (refine wpList_load_row rfl _ _ rfl _ rfl _ _ _ _ (z4.out.2.1) Tryz.underlying29 rfl size_three ?_)
    refine (HSx.out _ z4.out.2.2.2.2.1).mono ?_
    rintro e w8 ⟨rfl, hB8⟩
    have R9 := Lib.hid (RP.out _ _ z4.out hB8)
    have H12 := Lib.hid (RowAt.new w8 28 #[.int .u64 0, .int .u64 0, .int .u64 0])
    have hm1 : w.heap.size + 1 ≠ w8.heap.size := by have := R9.out.1.lt; omega
    have hm2 : w.heap.size + 1 + 1 ≠ w8.heap.size := by have := R9.out.2.1.lt; omega
    have hm3 : w3.heap.size ≠ w8.heap.size := by have := R9.out.2.2.1.lt; omega
    have hm4 : w6.heap.size ≠ w8.heap.size := by have := R9.out.2.2.2.1.lt; omega
    have hsz1 := R9.out.2.2.2.2.2.size
    have Q9 : Hid (RowAt ((w8.alloc (.cells #[.int .u64 0, .int .u64 0, .int .u64 0] 28)).setRow w8.heap.size (three n)) (w.heap.size + 1) 28 (three (w3n a b c)) ∧ RowAt ((w8.alloc (.cells #[.int .u64 0, .int .u64 0, .int .u64 0] 28)).setRow w8.heap.size (three n)) (w.heap.size + 1 + 1) 29 (three x) ∧ RowAt ((w8.alloc (.cells #[.int .u64 0, .int .u64 0, .int .u64 0] 28)).setRow w8.heap.size (three n)) w6.heap.size 29 (three j) ∧ RowAt ((w8.alloc (.cells #[.int .u64 0, .int .u64 0, .int .u64 0] 28)).setRow w8.heap.size (three n)) w8.heap.size 28 (three n) ∧ Below w.heap.size w ((w8.alloc (.cells #[.int .u64 0, .int .u64 0, .int .u64 0] 28)).setRow w8.heap.size (three n))) := Lib.hid ⟨(R9.out.1.alloc _).setRowOther _ _ hm1, (R9.out.2.1.alloc _).setRowOther _ _ hm2, (R9.out.2.2.2.1.alloc _).setRowOther _ _ hm4, H12.out.setRow _, below_setRow (R9.out.2.2.2.2.2.alloc hsz1 _) hsz1 _⟩
    have P9 := Lib.hid ((R9.out.2.2.1.alloc (.cells #[.int .u64 0, .int .u64 0, .int .u64 0] 28)).setRowOther w8.heap.size (three n) hm3)
    have QP : Hid (∀ W W', (RowAt W (w.heap.size + 1) 28 (three (w3n a b c)) ∧ RowAt W (w.heap.size + 1 + 1) 29 (three x) ∧ RowAt W w6.heap.size 29 (three j) ∧ RowAt W w8.heap.size 28 (three n) ∧ Below w.heap.size w W) → Below W.heap.size W W' → (RowAt W' (w.heap.size + 1) 28 (three (w3n a b c)) ∧ RowAt W' (w.heap.size + 1 + 1) 29 (three x) ∧ RowAt W' w6.heap.size 29 (three j) ∧ RowAt W' w8.heap.size 28 (three n) ∧ Below w.heap.size w W')) := Lib.hid (fun W W' h hB => ⟨h.1.keep hB, h.2.1.keep hB, h.2.2.1.keep hB, h.2.2.2.1.keep hB, h.2.2.2.2.trans (hB.mono h.2.2.2.2.size)⟩)
    clear z1 z3 z4 R9 hB8 R8 R8d RP HPd HLs HSx HV6
    go_wp2_with (first | (refine wpList_store_row rfl _ _ _ rfl _ _ rfl rfl _ _ (H12.out) size_w3 rfl (three_one _) ?_) | (refine wpList_load_row rfl _ _ rfl _ rfl _ _ _ _ (P9.out) Tryz.underlying28 rfl (by exact size_w3) ?_))
    generalize (w8.alloc (.cells #[.int .u64 0, .int .u64 0, .int .u64 0] 28)).setRow w8.heap.size (three n) = w9 at *
    go_loopw [41] (fun I wr => ∃ i : Nat, I = .int .i64 i ∧ i ≤ 3 ∧ Hid (RowAt wr (w.heap.size + 1) 28 (three (w3n a b c)) ∧ RowAt wr (w.heap.size + 1 + 1) 29 (three x) ∧ RowAt wr w6.heap.size 29 (three j) ∧ RowAt wr w8.heap.size 28 (three n) ∧ Below w.heap.size w wr)) (fun I _ => 3 - (intOf I).toNat)
    case atStart => exact ⟨0, rfl, by omega, Q9⟩
    case round =>
      clear Q9 P9
      obtain ⟨i, rfl, hi, Q⟩ := hrel
      by_cases hlt : i < 3
      · have f0 : (0 : Int) ≤ (i : Int) := by omega
        have f1 : (i : Int) < 3 := by omega
        obtain ⟨m0, m1, hjm, hxm, hrm, hpm⟩ := HI.out i hlt
        have hix : ∀ W, (Instr.index 28 (.agg #[.int .u64 (p : Int), .int .u64 (q : Int), .int .u64 (r : Int)]) (.int .i64 (i : Int))).run Tryz.prog W = .ok (.int .u64 ((pk p q r i : Nat) : Int)) W := fun W => run_index_row _ _ _ _ _ _ _ Tryz.underlying28 rfl Tryz.underlying22 (by kernel_rfl) hlt hpm W
        have HRj := Lib.hid (HRs.out j (pk p q r i) HJB.out.1 m1 m0)
        have HRx := Lib.hid (HRs.out x (pk p q r i) HJB.out.2 m1 m0)
        rw [hjm] at HRj
        obtain ⟨m, hm⟩ : ∃ m, m = pk p q r i := ⟨_, rfl⟩
        obtain ⟨ri, hri⟩ : ∃ ri, ri = pk a b c i := ⟨_, rfl⟩
        obtain ⟨u2, hu2⟩ : ∃ u, u = x % m := ⟨_, rfl⟩
        obtain ⟨u1, hu1⟩ : ∃ u, u = ri % m := ⟨_, rfl⟩
        have HSc : Hid (∀ W, (RowAt W (w.heap.size + 1) 28 (three (w3n a b c)) ∧ RowAt W (w.heap.size + 1 + 1) 29 (three x) ∧ RowAt W w6.heap.size 29 (three j) ∧ RowAt W w8.heap.size 28 (three n) ∧ Below w.heap.size w W) → RowAt W w6.heap.size 29 (three j) ∧ RowAt W (w.heap.size + 1 + 1) 29 (three x) ∧ W.cell? ⟨w.heap.size + 1, i, none⟩ = some (.int .u64 (ri : Int)) ∧ W.cell? ⟨w8.heap.size, i, none⟩ = some (.int .u64 (u2 : Int))) := Lib.hid (fun W h => ⟨h.2.2.1, h.2.1, by rw [h.1.cell (three_get _ i hlt), hrm, hri], by rw [h.2.2.2.1.cell (three_get _ i hlt), hxm, hu2, hm]⟩)
        rw [← hm] at HRj HRx hix m0 m1
        rw [← hri, ← hu1] at HRj
        rw [← hu2] at HRx
        have vr : (ri : Int) % (m : Int) = (u1 : Int) := by rw [hu1]; rfl
        have vr' : (ri : Int).tmod (m : Int) = (u1 : Int) := by rw [Int.tmod_eq_emod_of_nonneg (by omega)]; exact vr
        have tm : ((m : Int) == 0) = false := by simp; omega
        have tu : ((u1 : Int) != (u1 : Int)) = false := by simp
        have tv : ((u2 : Int) != (u2 : Int)) = false := by simp
        have Q0 : Hid (RowAt (wr.drewN 1) (w.heap.size + 1) 28 (three (w3n a b c)) ∧ RowAt (wr.drewN 1) (w.heap.size + 1 + 1) 29 (three x) ∧ RowAt (wr.drewN 1) w6.heap.size 29 (three j) ∧ RowAt (wr.drewN 1) w8.heap.size 28 (three n) ∧ Below w.heap.size w (wr.drewN 1)) := Lib.hid ⟨Q.out.1, Q.out.2.1, Q.out.2.2.1, Q.out.2.2.2.1, below_drewN Q.out.2.2.2.2 1⟩
        clear hm hri hu1 hu2 hjm hxm hrm hpm Q
        go_wp2_with fail
        change (Code.region _ _ true).wp _ _ _ _
        refine wp_region_held_drew (S := fun wz => RowAt wz w6.heap.size 29 (three j) ∧ RowAt wz (w.heap.size + 1 + 1) 29 (three x) ∧ wz.cell? ⟨w.heap.size + 1, i, none⟩ = some (.int .u64 (ri : Int)) ∧ wz.cell? ⟨w8.heap.size, i, none⟩ = some (.int .u64 (u2 : Int))) (by kernel_rfl) ((HSc.out _ Q0.out)) (fun hHeld => ?_)
        refine wpAnyH_take (i := 0) rfl (by kernel_rfl) (by kernel_rfl) (by kernel_rfl) (fun _ _ _ h => h) (yieldsIf_load_row (by rfl) _ _ rfl _ rfl _ _ _ (fun wz h => h.1) Tryz.underlying29 rfl size_three) (by assumption) ?_
        try simp only [Act.put, List.getElem_toArray, List.getElem_cons_zero, List.getElem_cons_succ, List.setIfInBounds_toArray, List.set_cons_zero, List.set_cons_succ]
        refine wpAnyH_take (i := 2) (v := ?_) rfl (by kernel_rfl) (by kernel_rfl) (by kernel_rfl) (fun _ _ _ h => h) (Or.inl ⟨by rfl, ?_⟩) (by assumption) ?_
        rotate_left
        · intro w hSw; (try dsimp only at hSw); go_simp; try with_reducible rfl
        try simp only [Act.put, List.getElem_toArray, List.getElem_cons_zero, List.getElem_cons_succ, List.setIfInBounds_toArray, List.set_cons_zero, List.set_cons_succ]
        refine wpAnyH_take (i := 4) (v := ?_) rfl (by kernel_rfl) (by kernel_rfl) (by kernel_rfl) (fun _ _ _ h => h) (Or.inl ⟨by rfl, ?_⟩) (by assumption) ?_
        rotate_left
        · intro w hSw; (try dsimp only at hSw); go_simp; try with_reducible rfl
        try simp only [Act.put, List.getElem_toArray, List.getElem_cons_zero, List.getElem_cons_succ, List.setIfInBounds_toArray, List.set_cons_zero, List.set_cons_succ]
        refine wpAnyH_take (i := 5) (v := ?_) rfl (by kernel_rfl) (by kernel_rfl) (by kernel_rfl) (fun _ _ _ h => h) (Or.inl ⟨by rfl, ?_⟩) (by assumption) ?_
        rotate_left
        · intro w hSw; (try dsimp only at hSw); go_simp; try with_reducible rfl
        try simp only [Act.put, List.getElem_toArray, List.getElem_cons_zero, List.getElem_cons_succ, List.setIfInBounds_toArray, List.set_cons_zero, List.set_cons_succ]
        refine wpAnyH_take (i := 6) (v := ?_) rfl (by kernel_rfl) (by kernel_rfl) (by kernel_rfl) (fun _ _ _ h => h) (Or.inl ⟨by rfl, ?_⟩) (by assumption) ?_
        rotate_left
        · intro w hSw; (try dsimp only at hSw); go_simp; try with_reducible rfl
        try simp only [Act.put, List.getElem_toArray, List.getElem_cons_zero, List.getElem_cons_succ, List.setIfInBounds_toArray, List.set_cons_zero, List.set_cons_succ]
        refine wpAnyH_take (i := 7) (v := ?_) rfl (by kernel_rfl) (by kernel_rfl) (by kernel_rfl) (fun _ _ _ h => h) (Or.inl ⟨by rfl, ?_⟩) (by assumption) ?_
        rotate_left
        · intro w hSw; (try dsimp only at hSw); go_simp; try with_reducible rfl
        try simp only [Act.put, List.getElem_toArray, List.getElem_cons_zero, List.getElem_cons_succ, List.setIfInBounds_toArray, List.set_cons_zero, List.set_cons_succ]
        refine wpAnyH_take (i := 8) (v := ?_) rfl (by kernel_rfl) (by kernel_rfl) (by kernel_rfl) (fun _ _ _ h => h) (Or.inl ⟨by rfl, ?_⟩) (by assumption) ?_
        rotate_left
        · intro w hSw; (try dsimp only at hSw); go_simp; try with_reducible rfl
        try simp only [Act.put, List.getElem_toArray, List.getElem_cons_zero, List.getElem_cons_succ, List.setIfInBounds_toArray, List.set_cons_zero, List.set_cons_succ]
        refine wpAnyH_ready (rs := [1]) (by kernel_rfl) (by simp) ?_
        refine AllReadyH.cons rfl (fun K hK => ?_) AllReadyH.nil
        try simp only [List.getElem_toArray, List.getElem_cons_zero, List.getElem_cons_succ]
        rw [if_pos (by rfl)]
        go_wp2_with (go_at_call 17; refine (HBj.out _).mono ?_; rintro e y1 ⟨rfl, hY1⟩)
        have z1 := Lib.hid (QP.out _ _ Q0.out hY1)
        clear hY1
        refine hK.out _ _ ((HSc.out _ z1.out)) (fun _ => ?_)
        clear hK K
        try simp only [Act.put, List.getElem_toArray, List.getElem_cons_zero, List.getElem_cons_succ, List.setIfInBounds_toArray, List.set_cons_zero, List.set_cons_succ]
        refine wpAnyH_ready (rs := [3]) (by kernel_rfl) (by simp) ?_
        refine AllReadyH.cons rfl (fun K hK => ?_) AllReadyH.nil
        try simp only [List.getElem_toArray, List.getElem_cons_zero, List.getElem_cons_succ]
        rw [if_pos (by rfl)]
        go_wp2_with (go_at_call 29; refine (HRj.out _).mono ?_; rintro e y3 ⟨rfl, hY3⟩)
        have z3 := Lib.hid (QP.out _ _ z1.out hY3)
        clear hY3
        refine hK.out _ _ ((HSc.out _ z3.out)) (fun _ => ?_)
        clear hK K
        try simp only [Act.put, List.getElem_toArray, List.getElem_cons_zero, List.getElem_cons_succ, List.setIfInBounds_toArray, List.set_cons_zero, List.set_cons_succ]
        refine wpAnyH_take (i := 9) (v := ?_) rfl (by kernel_rfl) (by kernel_rfl) (by kernel_rfl) (fun _ _ _ h => h) (Or.inl ⟨by rfl, ?_⟩) (HSc.out _ z3.out) ?_
        rotate_left
        · intro w hSw; (try dsimp only at hSw); go_simp; try with_reducible rfl
        try simp only [Act.put, List.getElem_toArray, List.getElem_cons_zero, List.getElem_cons_succ, List.setIfInBounds_toArray, List.set_cons_zero, List.set_cons_succ]
        refine wpAnyH_take (i := 10) (v := ?_) rfl (by kernel_rfl) (by kernel_rfl) (by kernel_rfl) (fun _ _ _ h => h) (Or.inl ⟨by rfl, ?_⟩) (HSc.out _ z3.out) ?_
        rotate_left
        · intro w hSw; (try dsimp only at hSw); go_simp; try with_reducible rfl
        try simp only [Act.put, List.getElem_toArray, List.getElem_cons_zero, List.getElem_cons_succ, List.setIfInBounds_toArray, List.set_cons_zero, List.set_cons_succ]
        refine wpAnyH_take (i := 11) (v := ?_) rfl (by kernel_rfl) (by kernel_rfl) (by kernel_rfl) (fun _ _ _ h => h) (Or.inl ⟨by rfl, ?_⟩) (HSc.out _ z3.out) ?_
        rotate_left
        · intro w hSw; (try dsimp only at hSw); go_simp; try with_reducible rfl
        try simp only [Act.put, List.getElem_toArray, List.getElem_cons_zero, List.getElem_cons_succ, List.setIfInBounds_toArray, List.set_cons_zero, List.set_cons_succ]
        refine wpAnyH_take (i := 12) (v := ?_) rfl (by kernel_rfl) (by kernel_rfl) (by kernel_rfl) (fun _ _ _ h => h) (Or.inl ⟨by rfl, ?_⟩) (HSc.out _ z3.out) ?_
        rotate_left
        · intro w hSw; (try dsimp only at hSw); go_simp; try with_reducible rfl
        try simp only [Act.put, List.getElem_toArray, List.getElem_cons_zero, List.getElem_cons_succ, List.setIfInBounds_toArray, List.set_cons_zero, List.set_cons_succ]
        refine wpAnyH_take (i := 13) (v := ?_) rfl (by kernel_rfl) (by kernel_rfl) (by kernel_rfl) (fun _ _ _ h => h) (Or.inl ⟨by rfl, ?_⟩) (HSc.out _ z3.out) ?_
        rotate_left
        · intro w hSw; (try dsimp only at hSw); go_simp; try with_reducible rfl
        try simp only [Act.put, List.getElem_toArray, List.getElem_cons_zero, List.getElem_cons_succ, List.setIfInBounds_toArray, List.set_cons_zero, List.set_cons_succ]
        refine wpAnyH_take (i := 14) rfl (by kernel_rfl) (by kernel_rfl) (by kernel_rfl) (fun _ _ _ h => h) (yieldsIf_load_row (by rfl) _ _ rfl _ rfl _ _ _ (fun wz h => h.2.1) Tryz.underlying29 rfl size_three) (HSc.out _ z3.out) ?_
        try simp only [Act.put, List.getElem_toArray, List.getElem_cons_zero, List.getElem_cons_succ, List.setIfInBounds_toArray, List.set_cons_zero, List.set_cons_succ]
        refine wpAnyH_take (i := 16) (v := ?_) rfl (by kernel_rfl) (by kernel_rfl) (by kernel_rfl) (fun _ _ _ h => h) (Or.inl ⟨by rfl, ?_⟩) (HSc.out _ z3.out) ?_
        rotate_left
        · intro w hSw; (try dsimp only at hSw); go_simp; try with_reducible rfl
        try simp only [Act.put, List.getElem_toArray, List.getElem_cons_zero, List.getElem_cons_succ, List.setIfInBounds_toArray, List.set_cons_zero, List.set_cons_succ]
        refine wpAnyH_ready (rs := [15]) (by kernel_rfl) (by simp) ?_
        refine AllReadyH.cons rfl (fun K hK => ?_) AllReadyH.nil
        try simp only [List.getElem_toArray, List.getElem_cons_zero, List.getElem_cons_succ]
        rw [if_pos (by rfl)]
        go_wp2_with (go_at_call 17; refine (HBx.out _).mono ?_; rintro e y15 ⟨rfl, hY15⟩)
        have z15 := Lib.hid (QP.out _ _ z3.out hY15)
        clear hY15
        refine hK.out _ _ ((HSc.out _ z15.out)) (fun _ => ?_)
        clear hK K
        try simp only [Act.put, List.getElem_toArray, List.getElem_cons_zero, List.getElem_cons_succ, List.setIfInBounds_toArray, List.set_cons_zero, List.set_cons_succ]
        refine wpAnyH_ready (rs := [17]) (by kernel_rfl) (by simp) ?_
        refine AllReadyH.cons rfl (fun K hK => ?_) AllReadyH.nil
        try simp only [List.getElem_toArray, List.getElem_cons_zero, List.getElem_cons_succ]
        rw [if_pos (by rfl)]
        go_wp2_with (go_at_call 29; refine (HRx.out _).mono ?_; rintro e y17 ⟨rfl, hY17⟩)
        have z17 := Lib.hid (QP.out _ _ z15.out hY17)
        clear hY17
        refine hK.out _ _ ((HSc.out _ z17.out)) (fun _ => ?_)
        clear hK K
        try simp only [Act.put, List.getElem_toArray, List.getElem_cons_zero, List.getElem_cons_succ, List.setIfInBounds_toArray, List.set_cons_zero, List.set_cons_succ]
        refine wpAnyH_take (i := 18) (v := ?_) rfl (by kernel_rfl) (by kernel_rfl) (by kernel_rfl) (fun _ _ _ h => h) (Or.inl ⟨by rfl, ?_⟩) (HSc.out _ z17.out) ?_
        rotate_left
        · intro w hSw; (try dsimp only at hSw); go_simp; try with_reducible rfl
        try simp only [Act.put, List.getElem_toArray, List.getElem_cons_zero, List.getElem_cons_succ, List.setIfInBounds_toArray, List.set_cons_zero, List.set_cons_succ]
        refine wpAnyH_take (i := 19) (v := ?_) rfl (by kernel_rfl) (by kernel_rfl) (by kernel_rfl) (fun _ _ _ h => h) (Or.inl ⟨by rfl, ?_⟩) (HSc.out _ z17.out) ?_
        rotate_left
        · intro w hSw; (try dsimp only at hSw); go_simp; try with_reducible rfl
        try simp only [Act.put, List.getElem_toArray, List.getElem_cons_zero, List.getElem_cons_succ, List.setIfInBounds_toArray, List.set_cons_zero, List.set_cons_succ]
        refine wpAnyH_done (by kernel_rfl) ?_ _
        go_wp2
        go_roundw
        case rel => exact ⟨i + 1, by go_num, by omega, z17⟩
        case measure => simp [intOf]; omega
      · obtain rfl : i = 3 := by omega
        go_wp2
        go_ret
        exact ⟨rfl, Q.out.2.2.2.2⟩
  · have HB4 := Lib.hid K4.out.2.2.2.2
    clear K4 KP her hno
    go_wp2_with (refine wpList_store_row rfl _ _ _ rfl _ #[.int .u64 (p : Int), .int .u64 (q : Int), .int .u64 (r : Int)] rfl rfl _ _ (H6.out) size_w3 rfl (one3 _ _ _) ?_)
    go_ret
    exact ⟨rfl, HB4.out⟩
end Go.Proofs.YtjjfiidgjiekpaaGreat
