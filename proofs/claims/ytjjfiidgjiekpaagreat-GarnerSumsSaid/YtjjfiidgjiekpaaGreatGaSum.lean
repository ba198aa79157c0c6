/- The law GarnerSums. -/
import Derived.Test.YtjjfiidgjiekpaaGreatWG23AG23BGaM
set_option linter.unusedVariables false
set_option linter.unusedSimpArgs false
set_option linter.unusedSectionVars false
set_option linter.unusedVariables false
set_option linter.unusedSimpArgs false
namespace Go.Proofs.YtjjfiidgjiekpaaGreat
open Go.RowKit
open Alg (Prime)
theorem cap_any {P : Program} {md : Region.Mode} {ops : Array Oper} {Q : Exit → Act → World → Prop} {S : World → Prop} {f : Nat} {l : Array Bool} {a : Act} {w : World}
    (h : ∀ ops' Q' S' a', ops' = ops → Q' = Q → S' = S → a' = a → wpAnyH P md ops' Q' S' f l a' w) : wpAnyH P md ops Q S f l a w := h _ _ _ _ rfl rfl rfl rfl
theorem cast_any {P : Program} {md : Region.Mode} {ops : Array Oper} {Q : Exit → Act → World → Prop} {S : World → Prop} {f : Nat} {l l' : Array Bool} {a a' : Act} {w : World}
    (h : wpAnyH P md ops Q S f l' a' w) (hl : l = l') (ha : a = a') : wpAnyH P md ops Q S f l a w := by rw [hl, ha]; exact h
/-- Up to three new rows of three words. -/
def AlS (W : World) (B : Nat) (A1 A2 A3 : Bool) (b1 b2 b3 : Nat) : Prop :=
  (A1 = true → B ≤ b1 ∧ RowAt W b1 28 (three 0)) ∧ (A2 = true → B ≤ b2 ∧ RowAt W b2 28 (three 0)) ∧ (A3 = true → B ≤ b3 ∧ RowAt W b3 28 (three 0)) ∧
  (A1 = true → A2 = true → b1 ≠ b2) ∧ (A1 = true → A3 = true → b1 ≠ b3) ∧ (A2 = true → A3 = true → b2 ≠ b3)
theorem AlS.keep {W W' : World} {B b1 b2 b3 : Nat} {A1 A2 A3 : Bool} (h : AlS W B A1 A2 A3 b1 b2 b3) (hB : Below W.heap.size W W') : AlS W' B A1 A2 A3 b1 b2 b3 :=
  ⟨fun e => ⟨(h.1 e).1, (h.1 e).2.keep hB⟩, fun e => ⟨(h.2.1 e).1, (h.2.1 e).2.keep hB⟩, fun e => ⟨(h.2.2.1 e).1, (h.2.2.1 e).2.keep hB⟩, h.2.2.2⟩
theorem AlS.a1 {W : World} {B b1 b2 b3 : Nat} {A2 A3 : Bool} (h : AlS W B false A2 A3 b1 b2 b3) (hB : B ≤ W.heap.size) : AlS (W.alloc (.cells #[.int .u64 0, .int .u64 0, .int .u64 0] 28)) B true A2 A3 W.heap.size b2 b3 :=
  ⟨fun _ => ⟨hB, RowAt.new W _ _⟩, fun e => ⟨(h.2.1 e).1, (h.2.1 e).2.alloc _⟩, fun e => ⟨(h.2.2.1 e).1, (h.2.2.1 e).2.alloc _⟩, fun _ e => Nat.ne_of_gt (h.2.1 e).2.lt, fun _ e => Nat.ne_of_gt (h.2.2.1 e).2.lt, h.2.2.2.2.2⟩
theorem AlS.a2 {W : World} {B b1 b2 b3 : Nat} {A1 A3 : Bool} (h : AlS W B A1 false A3 b1 b2 b3) (hB : B ≤ W.heap.size) : AlS (W.alloc (.cells #[.int .u64 0, .int .u64 0, .int .u64 0] 28)) B A1 true A3 b1 W.heap.size b3 :=
  ⟨fun e => ⟨(h.1 e).1, (h.1 e).2.alloc _⟩, fun _ => ⟨hB, RowAt.new W _ _⟩, fun e => ⟨(h.2.2.1 e).1, (h.2.2.1 e).2.alloc _⟩, fun e _ => Nat.ne_of_lt (h.1 e).2.lt, h.2.2.2.2.1, fun _ e => Nat.ne_of_gt (h.2.2.1 e).2.lt⟩
theorem AlS.a3 {W : World} {B b1 b2 b3 : Nat} {A1 A2 : Bool} (h : AlS W B A1 A2 false b1 b2 b3) (hB : B ≤ W.heap.size) : AlS (W.alloc (.cells #[.int .u64 0, .int .u64 0, .int .u64 0] 28)) B A1 A2 true b1 b2 W.heap.size :=
  ⟨fun e => ⟨(h.1 e).1, (h.1 e).2.alloc _⟩, fun e => ⟨(h.2.1 e).1, (h.2.1 e).2.alloc _⟩, fun _ => ⟨hB, RowAt.new W _ _⟩, h.2.2.2.1, fun e _ => Nat.ne_of_lt (h.1 e).2.lt, fun e _ => Nat.ne_of_lt (h.2.1 e).2.lt⟩
theorem cyA3 (x y : Nat) (hx : x < 6277101735386680763835789423207666416102355444464034512896) (hy : y < 6277101735386680763835789423207666416102355444464034512896) : cyA x y 3 = (x + y) / 6277101735386680763835789423207666416102355444464034512896 := by
  unfold cyA; simp only [Nat.reducePow]; rw [Nat.mod_eq_of_lt hx, Nat.mod_eq_of_lt hy]
set_option maxHeartbeats 8000000 in
set_option maxRecDepth 100000 in
theorem garnerSums_walk (w : World) (Aa : Option Addr) (ca : Nat) (kinda kka ppa : Int) (esa : List Ent) (Ab : Option Addr) (cb : Nat) (kindb kkb ppb : Int) (esb : List Ent) (Ac : Option Addr) (cc : Nat) (kindc kkc ppc : Int) (esc : List Ent) (x y : Nat) (hsa : SrcA w Aa ca kinda kka ppa esa) (hsb : SrcA w Ab cb kindb kkb ppb esb) (hsc : SrcA w Ac cc kindc kkc ppc esc) (hx : x < 6277101735386680763835789423207666416102355444464034512896) (hy : y < 6277101735386680763835789423207666416102355444464034512896) :
    Calls Tryz.prog 7 #[.agg #[.int .i64 kinda, .int .i64 kka, .int .u64 ppa, .slice Aa esa.length ca, .int .i64 kindb, .int .i64 kkb, .int .u64 ppb, .slice Ab esb.length cb, .int .i64 kindc, .int .i64 kkc, .int .u64 ppc, .slice Ac esc.length cc], .agg (three x), .agg (three y)] w fun e w' => e = .returned (.bool true) ∧ Below w.heap.size w w' := by
  have R0 := Lib.hid (lay3 w 27 29 29 #[.int .i64 kinda, .int .i64 kka, .int .u64 ppa, .slice Aa esa.length ca, .int .i64 kindb, .int .i64 kkb, .int .u64 ppb, .slice Ab esb.length cb, .int .i64 kindc, .int .i64 kkc, .int .u64 ppc, .slice Ac esc.length cc] (three x) (three y))
  have HSa := Lib.hid hsa
  have HSb := Lib.hid hsb
  have HSc := Lib.hid hsc
  have hz : ∀ w, (zeroValue 29).run Tryz.prog w = .ok (.agg #[.int .u64 0, .int .u64 0, .int .u64 0]) w := (zero_of_info info_three).1
  have hz3 : ∀ w, (zeroValue 28).run Tryz.prog w = .ok (.agg #[.int .u64 0, .int .u64 0, .int .u64 0]) w := (zero_of_info info_w3).1
  clear hsa hsb hsc
  go_enter Tryz.func7, Tryz.ntmps7
  go_wp2_with fail
  generalize (((w.alloc (.cells #[.int .i64 kinda, .int .i64 kka, .int .u64 ppa, .slice Aa esa.length ca, .int .i64 kindb, .int .i64 kkb, .int .u64 ppb, .slice Ab esb.length cb, .int .i64 kindc, .int .i64 kkc, .int .u64 ppc, .slice Ac esc.length cc] 27)).alloc (.cells (three x) 29)).alloc (.cells (three y) 29)) = w1 at *
  refine (alive23_any w1).mono ?_
  rintro e w2 ⟨rfl, hB2⟩
  have R2 : Hid (RowAt w2 w.heap.size 27 #[.int .i64 kinda, .int .i64 kka, .int .u64 ppa, .slice Aa esa.length ca, .int .i64 kindb, .int .i64 kkb, .int .u64 ppb, .slice Ab esb.length cb, .int .i64 kindc, .int .i64 kkc, .int .u64 ppc, .slice Ac esc.length cc] ∧ RowAt w2 (w.heap.size + 1) 29 (three x) ∧ RowAt w2 (w.heap.size + 1 + 1) 29 (three y) ∧ Below w.heap.size w w2) := Lib.hid ⟨R0.out.1.keep hB2, R0.out.2.1.keep hB2, R0.out.2.2.1.keep hB2, R0.out.2.2.2.trans (hB2.mono R0.out.2.2.2.size)⟩
  clear hB2 R0
  go_wp2_with (refine wpList_load_row rfl _ _ rfl _ rfl _ _ _ _ (R2.out.1) Tryz.underlying27 rfl (by exact size_threes) ?_)
  refine (trio_any w2 Aa ca kinda kka ppa esa Ab cb kindb kkb ppb esb Ac cc kindc kkc ppc esc (HSa.out.below R2.out.2.2.2) (HSb.out.below R2.out.2.2.2) (HSc.out.below R2.out.2.2.2)).mono ?_
  rintro e w3 ⟨v, p, q, r, er, ok, rfl, hTR, hB3⟩
  have hw3 : ∀ k, w.heap.size + k < w2.heap.size → w.heap.size + k ≠ w3.heap.size := fun k hk => by have := hB3.size; omega
  have hl0 := R2.out.2.2.1.lt
  have hl1 := R2.out.2.2.2.size
  have hl2 := hB3.size
  have H6 := Lib.hid (RowAt.new w3 28 #[.int .u64 0, .int .u64 0, .int .u64 0])
  have hTR4 : TR (w3.alloc (.cells #[.int .u64 0, .int .u64 0, .int .u64 0] 28)) v p q r er ok := hTR.keep ((Below.refl w3.heap.size w3).alloc (Nat.le_refl _) _)
  have K4 : Hid (RowAt ((w3.alloc (.cells #[.int .u64 0, .int .u64 0, .int .u64 0] 28)).setRow w3.heap.size #[.int .u64 (p : Int), .int .u64 (q : Int), .int .u64 (r : Int)]) (w.heap.size + 1) 29 (three x) ∧ RowAt ((w3.alloc (.cells #[.int .u64 0, .int .u64 0, .int .u64 0] 28)).setRow w3.heap.size #[.int .u64 (p : Int), .int .u64 (q : Int), .int .u64 (r : Int)]) (w.heap.size + 1 + 1) 29 (three y) ∧ RowAt ((w3.alloc (.cells #[.int .u64 0, .int .u64 0, .int .u64 0] 28)).setRow w3.heap.size #[.int .u64 (p : Int), .int .u64 (q : Int), .int .u64 (r : Int)]) w3.heap.size 28 #[.int .u64 (p : Int), .int .u64 (q : Int), .int .u64 (r : Int)] ∧ TR ((w3.alloc (.cells #[.int .u64 0, .int .u64 0, .int .u64 0] 28)).setRow w3.heap.size #[.int .u64 (p : Int), .int .u64 (q : Int), .int .u64 (r : Int)]) v p q r er ok ∧ Below w.heap.size w ((w3.alloc (.cells #[.int .u64 0, .int .u64 0, .int .u64 0] 28)).setRow w3.heap.size #[.int .u64 (p : Int), .int .u64 (q : Int), .int .u64 (r : Int)])) := Lib.hid ⟨((R2.out.2.1.keep hB3).alloc _).setRowOther _ _ (by omega), ((R2.out.2.2.1.keep hB3).alloc _).setRowOther _ _ (by omega), H6.out.setRow _, hTR4.setRow (m := 0) H6.out _, below_setRow ((R2.out.2.2.2.trans (hB3.mono hl1)).alloc (by omega) _) (by omega) _⟩
  clear hTR hTR4 hB3 R2
  have KP : Hid (∀ W W', (RowAt W (w.heap.size + 1) 29 (three x) ∧ RowAt W (w.heap.size + 1 + 1) 29 (three y) ∧ RowAt W w3.heap.size 28 #[.int .u64 (p : Int), .int .u64 (q : Int), .int .u64 (r : Int)] ∧ TR W v p q r er ok ∧ Below w.heap.size w W) → Below W.heap.size W W' → (RowAt W' (w.heap.size + 1) 29 (three x) ∧ RowAt W' (w.heap.size + 1 + 1) 29 (three y) ∧ RowAt W' w3.heap.size 28 #[.int .u64 (p : Int), .int .u64 (q : Int), .int .u64 (r : Int)] ∧ TR W' v p q r er ok ∧ Below w.heap.size w W')) := Lib.hid (fun W W' h hB => ⟨h.1.keep hB, h.2.1.keep hB, h.2.2.1.keep hB, h.2.2.2.1.keep hB, h.2.2.2.2.trans (hB.mono h.2.2.2.2.size)⟩)
  obtain ⟨hp, hq, hr, ⟨rfl, rfl, hT, hV⟩ | ⟨rfl, rfl, her, hno⟩⟩ := K4.out.2.2.2.1
  · have HT := Lib.hid hT
    have HV := Lib.hid hV
    clear hV hT
    go_wp2_with (first | (refine wpList_store_row rfl _ _ _ rfl _ #[.int .u64 (p : Int), .int .u64 (q : Int), .int .u64 (r : Int)] rfl rfl _ _ (H6.out) size_w3 rfl (one3 _ _ _) ?_; generalize hW4 : (w3.alloc (.cells #[.int .u64 0, .int .u64 0, .int .u64 0] 28)).setRow w3.heap.size #[.int .u64 (p : Int), .int .u64 (q : Int), .int .u64 (r : Int)] = w4 at *) | (refine wpList_load_row rfl _ _ rfl _ rfl _ _ _ _ (K4.out.1) Tryz.underlying29 rfl size_three ?_) | (refine wpList_load_row rfl _ _ rfl _ rfl _ _ _ _ (K4.out.2.1) Tryz.underlying29 rfl size_three ?_))
    refine (ladd_any x y _).mono ?_
    rintro e w6 ⟨rfl, hB6⟩
    rw [cyA3 x y hx hy]
    have K6 := Lib.hid (KP.out _ _ K4.out hB6)
    have HV6 := Lib.hid ((HV.out.below hB6).mono hB6.size)
    have H9 := Lib.hid (RowAt.new w6 29 #[.int .u64 0, .int .u64 0, .int .u64 0])
    have hq1 : w.heap.size + 1 < w6.heap.size := K6.out.1.lt
    have hq2 : w.heap.size + 1 + 1 < w6.heap.size := K6.out.2.1.lt
    have hne1 : w.heap.size + 1 ≠ w6.heap.size := by have := K6.out.1.lt; omega
    have hne1' : w.heap.size + 1 + 1 ≠ w6.heap.size := by have := K6.out.2.1.lt; omega
    have hsz0 := K6.out.2.2.2.2.size
    obtain ⟨s, hs⟩ : ∃ s, s = x + y := ⟨_, rfl⟩
    rw [← hs]
    have R8 : Hid (RowAt ((w6.alloc (.cells #[.int .u64 0, .int .u64 0, .int .u64 0] 29)).setRow w6.heap.size (three s)) (w.heap.size + 1) 29 (three x) ∧ RowAt ((w6.alloc (.cells #[.int .u64 0, .int .u64 0, .int .u64 0] 29)).setRow w6.heap.size (three s)) (w.heap.size + 1 + 1) 29 (three y) ∧ RowAt ((w6.alloc (.cells #[.int .u64 0, .int .u64 0, .int .u64 0] 29)).setRow w6.heap.size (three s)) w6.heap.size 29 (three s) ∧ TrioP ((w6.alloc (.cells #[.int .u64 0, .int .u64 0, .int .u64 0] 29)).setRow w6.heap.size (three s)) ((w6.alloc (.cells #[.int .u64 0, .int .u64 0, .int .u64 0] 29)).setRow w6.heap.size (three s)).heap.size v p q r ∧ Below w.heap.size w ((w6.alloc (.cells #[.int .u64 0, .int .u64 0, .int .u64 0] 29)).setRow w6.heap.size (three s))) := Lib.hid ⟨(K6.out.1.alloc _).setRowOther _ _ hne1, (K6.out.2.1.alloc _).setRowOther _ _ hne1', H9.out.setRow _, by
      rw [size_setRow]
      exact TrioP.setRow (m := 0) ((HV6.out.below ((Below.refl w6.heap.size w6).alloc (Nat.le_refl _) _)).mono (by simp)) H9.out _, below_setRow (K6.out.2.2.2.2.alloc hsz0 _) hsz0 _⟩
    by_cases hc : s < 6277101735386680763835789423207666416102355444464034512896
    · rw [show s / 6277101735386680763835789423207666416102355444464034512896 = 0 by omega, show decide (0 = 1) = false from rfl]
      have RP : Hid (∀ W W', (RowAt W (w.heap.size + 1) 29 (three x) ∧ RowAt W (w.heap.size + 1 + 1) 29 (three y) ∧ RowAt W w6.heap.size 29 (three s) ∧ TrioP W W.heap.size v p q r ∧ Below w.heap.size w W) → Below W.heap.size W W' → (RowAt W' (w.heap.size + 1) 29 (three x) ∧ RowAt W' (w.heap.size + 1 + 1) 29 (three y) ∧ RowAt W' w6.heap.size 29 (three s) ∧ TrioP W' W'.heap.size v p q r ∧ Below w.heap.size w W')) := Lib.hid (fun W W' h hB => ⟨h.1.keep hB, h.2.1.keep hB, h.2.2.1.keep hB, (h.2.2.2.1.below hB).mono hB.size, h.2.2.2.2.trans (hB.mono h.2.2.2.2.size)⟩)
      have RA : Hid (∀ W, (RowAt W (w.heap.size + 1) 29 (three x) ∧ RowAt W (w.heap.size + 1 + 1) 29 (three y) ∧ RowAt W w6.heap.size 29 (three s) ∧ TrioP W W.heap.size v p q r ∧ Below w.heap.size w W) → (RowAt (W.alloc (.cells #[.int .u64 0, .int .u64 0, .int .u64 0] 28)) (w.heap.size + 1) 29 (three x) ∧ RowAt (W.alloc (.cells #[.int .u64 0, .int .u64 0, .int .u64 0] 28)) (w.heap.size + 1 + 1) 29 (three y) ∧ RowAt (W.alloc (.cells #[.int .u64 0, .int .u64 0, .int .u64 0] 28)) w6.heap.size 29 (three s) ∧ TrioP (W.alloc (.cells #[.int .u64 0, .int .u64 0, .int .u64 0] 28)) (W.alloc (.cells #[.int .u64 0, .int .u64 0, .int .u64 0] 28)).heap.size v p q r ∧ Below w.heap.size w (W.alloc (.cells #[.int .u64 0, .int .u64 0, .int .u64 0] 28)))) := Lib.hid (fun W h => RP.out _ _ h ((Below.refl W.heap.size W).alloc (Nat.le_refl _) _))
      have HSc : Hid (∀ u, u < 6277101735386680763835789423207666416102355444464034512896 → ∀ W, TrioP W W.heap.size v p q r → Calls Tryz.prog 26 #[v, .agg (three u)] W fun e w' => e = .returned (.agg (three (w3n (u % p) (u % q) (u % r)))) ∧ Below W.heap.size W w') := Lib.hid (fun u hu W h => tsplit_yes h HT.out u hu)
      have HS1 := Lib.hid (HSc.out x hx)
      have HS2 := Lib.hid (HSc.out y hy)
      have HS3 := Lib.hid (HSc.out s hc)
      have HN : Hid (∀ u i, i < 3 → wd (w3n (u % p) (u % q) (u % r)) i = u % pk p q r i) := Lib.hid (fun u i hi => by
        have h1 := HT.out.p3
        have h2 := HT.out.q3
        have h3 := HT.out.r3
        have l1 := Nat.mod_lt u (show 0 < p by omega)
        have l2 := Nat.mod_lt u (show 0 < q by omega)
        have l3 := Nat.mod_lt u (show 0 < r by omega)
        rw [wd_w3n (by omega) (by omega) (by omega) i hi]
        match i, hi with
        | 0, _ => rfl
        | 1, _ => rfl
        | 2, _ => rfl)
      have HNx := Lib.hid (HN.out x)
      have HNy := Lib.hid (HN.out y)
      have HNs := Lib.hid (HN.out s)
      obtain ⟨n1, hn1⟩ : ∃ n, n = w3n (x % p) (x % q) (x % r) := ⟨_, rfl⟩
      obtain ⟨n2, hn2⟩ : ∃ n, n = w3n (y % p) (y % q) (y % r) := ⟨_, rfl⟩
      obtain ⟨n3, hn3⟩ : ∃ n, n = w3n (s % p) (s % q) (s % r) := ⟨_, rfl⟩
      rw [← hn1] at HS1 HNx
      rw [← hn2] at HS2 HNy
      rw [← hn3] at HS3 HNs
      have HSs := Lib.hid hs
      have HX := Lib.hid (And.intro hx (And.intro hy hc))
      clear hn1 hn2 hn3 K4 K6 hB6 HV HV6 hs hx hy hc HSc HN
      go_wp2_with (refine wpList_store_row rfl _ _ _ rfl _ _ rfl rfl _ _ (H9.out) size_three rfl (three_one _) ?_)
      have R9d : Hid (RowAt (((w6.alloc (.cells #[.int .u64 0, .int .u64 0, .int .u64 0] 29)).setRow w6.heap.size (three s)).drewN 1) (w.heap.size + 1) 29 (three x) ∧ RowAt (((w6.alloc (.cells #[.int .u64 0, .int .u64 0, .int .u64 0] 29)).setRow w6.heap.size (three s)).drewN 1) (w.heap.size + 1 + 1) 29 (three y) ∧ RowAt (((w6.alloc (.cells #[.int .u64 0, .int .u64 0, .int .u64 0] 29)).setRow w6.heap.size (three s)).drewN 1) w6.heap.size 29 (three s) ∧ TrioP (((w6.alloc (.cells #[.int .u64 0, .int .u64 0, .int .u64 0] 29)).setRow w6.heap.size (three s)).drewN 1) (((w6.alloc (.cells #[.int .u64 0, .int .u64 0, .int .u64 0] 29)).setRow w6.heap.size (three s)).drewN 1).heap.size v p q r ∧ Below w.heap.size w (((w6.alloc (.cells #[.int .u64 0, .int .u64 0, .int .u64 0] 29)).setRow w6.heap.size (three s)).drewN 1)) := Lib.hid ⟨R8.out.1, R8.out.2.1, R8.out.2.2.1, R8.out.2.2.2.1.below (below_drewN (Below.refl _ _) 1), below_drewN R8.out.2.2.2.2 1⟩
      clear H9
      generalize (w6.alloc (.cells #[.int .u64 0, .int .u64 0, .int .u64 0] 29)).setRow w6.heap.size (three s) = w7 at *
      try simp only [Act.put]
      change (Code.region _ _ true).wp _ _ _ _
      refine wp_region_held_drew (S := fun wz => RowAt wz (w.heap.size + 1) 29 (three x) ∧ RowAt wz (w.heap.size + 1 + 1) 29 (three y) ∧ RowAt wz w6.heap.size 29 (three s)) (by kernel_rfl) (⟨R9d.out.1, R9d.out.2.1, R9d.out.2.2.1⟩) (fun hHeld => ?_)
      refine wpAnyH_take (i := 0) (v := ?_) rfl (by kernel_rfl) (by kernel_rfl) (by kernel_rfl) (fun _ _ _ h => h) (Or.inl ⟨by rfl, ?_⟩) ⟨R9d.out.1, R9d.out.2.1, R9d.out.2.2.1⟩ ?_
      rotate_left
      · intro w hSw; (try dsimp only at hSw); go_simp; try with_reducible rfl
      try simp only [Act.put, List.getElem_toArray, List.getElem_cons_zero, List.getElem_cons_succ, List.setIfInBounds_toArray, List.set_cons_zero, List.set_cons_succ]
      refine wpAnyH_take (i := 1) rfl (by kernel_rfl) (by kernel_rfl) (by kernel_rfl) (fun _ _ _ h => h) (yieldsIf_load_row (by rfl) _ _ rfl _ rfl _ _ _ (fun wz h => h.1) Tryz.underlying29 rfl size_three) ⟨R9d.out.1, R9d.out.2.1, R9d.out.2.2.1⟩ ?_
      try simp only [Act.put, List.getElem_toArray, List.getElem_cons_zero, List.getElem_cons_succ, List.setIfInBounds_toArray, List.set_cons_zero, List.set_cons_succ]
      refine wpAnyH_take (i := 3) (v := ?_) rfl (by kernel_rfl) (by kernel_rfl) (by kernel_rfl) (fun _ _ _ h => h) (Or.inl ⟨by rfl, ?_⟩) ⟨R9d.out.1, R9d.out.2.1, R9d.out.2.2.1⟩ ?_
      rotate_left
      · intro w hSw; (try dsimp only at hSw); go_simp; try with_reducible rfl
      try simp only [Act.put, List.getElem_toArray, List.getElem_cons_zero, List.getElem_cons_succ, List.setIfInBounds_toArray, List.set_cons_zero, List.set_cons_succ]
      refine wpAnyH_take (i := 4) rfl (by kernel_rfl) (by kernel_rfl) (by kernel_rfl) (fun _ _ _ h => h) (yieldsIf_load_row (by rfl) _ _ rfl _ rfl _ _ _ (fun wz h => h.2.1) Tryz.underlying29 rfl size_three) ⟨R9d.out.1, R9d.out.2.1, R9d.out.2.2.1⟩ ?_
      try simp only [Act.put, List.getElem_toArray, List.getElem_cons_zero, List.getElem_cons_succ, List.setIfInBounds_toArray, List.set_cons_zero, List.set_cons_succ]
      refine wpAnyH_take (i := 6) (v := ?_) rfl (by kernel_rfl) (by kernel_rfl) (by kernel_rfl) (fun _ _ _ h => h) (Or.inl ⟨by rfl, ?_⟩) ⟨R9d.out.1, R9d.out.2.1, R9d.out.2.2.1⟩ ?_
      rotate_left
      · intro w hSw; (try dsimp only at hSw); go_simp; try with_reducible rfl
      try simp only [Act.put, List.getElem_toArray, List.getElem_cons_zero, List.getElem_cons_succ, List.setIfInBounds_toArray, List.set_cons_zero, List.set_cons_succ]
      refine wpAnyH_take (i := 7) rfl (by kernel_rfl) (by kernel_rfl) (by kernel_rfl) (fun _ _ _ h => h) (yieldsIf_load_row (by rfl) _ _ rfl _ rfl _ _ _ (fun wz h => h.2.2) Tryz.underlying29 rfl size_three) ⟨R9d.out.1, R9d.out.2.1, R9d.out.2.2.1⟩ ?_
      try simp only [Act.put, List.getElem_toArray, List.getElem_cons_zero, List.getElem_cons_succ, List.setIfInBounds_toArray, List.set_cons_zero, List.set_cons_succ]
      refine cap_any (fun O Qq S9 aa eO eQ eS ea => ?_)
      have tail : ∀ (b1 b2 b3 : Nat) (W : World), ((RowAt W (w.heap.size + 1) 29 (three x) ∧ RowAt W (w.heap.size + 1 + 1) 29 (three y) ∧ RowAt W w6.heap.size 29 (three s) ∧ TrioP W W.heap.size v p q r ∧ Below w.heap.size w W) ∧ AlS W (w6.heap.size + 1) true true true b1 b2 b3) → wpAnyH Tryz.prog .any O Qq S9 3 #[true, true, true, true, true, true, true, true, true, true, true, true, false, false, false] ((((((aa.put (some 39) (.agg (three n1))).put (some 42) (.agg (three n2))).put (some 45) (.agg (three n3))).put (some 13) (.pointer (some ⟨b1, 0, none⟩))).put (some 14) (.pointer (some ⟨b2, 0, none⟩))).put (some 15) (.pointer (some ⟨b3, 0, none⟩))) W := by
        intro b1 b2 b3 W hz0
        obtain ⟨hR, hA⟩ := hz0
        have zs0 := Lib.hid hR
        have B1 := Lib.hid (hA.1 rfl)
        have B2 := Lib.hid (hA.2.1 rfl)
        have B3 := Lib.hid (hA.2.2.1 rfl)
        have n12 := hA.2.2.2.1 rfl rfl
        have n13 := hA.2.2.2.2.1 rfl rfl
        have n23 := hA.2.2.2.2.2 rfl rfl
        have g1 := B1.out.1
        have g2 := B2.out.1
        have g3 := B3.out.1
        have RS : Hid (∀ W b (c c' : Array Value) m, (RowAt W (w.heap.size + 1) 29 (three x) ∧ RowAt W (w.heap.size + 1 + 1) 29 (three y) ∧ RowAt W w6.heap.size 29 (three s) ∧ TrioP W W.heap.size v p q r ∧ Below w.heap.size w W) → w6.heap.size + 1 ≤ b → RowAt W b 28 (three m) → (RowAt (W.setRow b c) (w.heap.size + 1) 29 (three x) ∧ RowAt (W.setRow b c) (w.heap.size + 1 + 1) 29 (three y) ∧ RowAt (W.setRow b c) w6.heap.size 29 (three s) ∧ TrioP (W.setRow b c) (W.setRow b c).heap.size v p q r ∧ Below w.heap.size w (W.setRow b c))) := Lib.hid (fun W b c c' m h hb hr => ⟨h.1.setRowOther _ _ (by omega), h.2.1.setRowOther _ _ (by omega), h.2.2.1.setRowOther _ _ (by omega), by rw [size_setRow]; exact h.2.2.2.1.setRow hr _, below_setRow h.2.2.2.2 (by omega) _⟩)
        have zs1 := Lib.hid (RS.out W b1 (three n1) #[] _ zs0.out g1 B1.out.2)
        have C2 := Lib.hid (B2.out.2.setRowOther b1 (three n1) n12.symm)
        have zs2 := Lib.hid (RS.out _ b2 (three n2) #[] _ zs1.out g2 C2.out)
        have C3 := Lib.hid ((B3.out.2.setRowOther b1 (three n1) n13.symm).setRowOther b2 (three n2) n23.symm)
        have zs3 := Lib.hid (RS.out _ b3 (three n3) #[] _ zs2.out g3 C3.out)
        have L0 : Hid (RowAt (((W.setRow b1 (three n1)).setRow b2 (three n2)).setRow b3 (three n3)) b1 28 (three n1) ∧ RowAt (((W.setRow b1 (three n1)).setRow b2 (three n2)).setRow b3 (three n3)) b2 28 (three n2) ∧ RowAt (((W.setRow b1 (three n1)).setRow b2 (three n2)).setRow b3 (three n3)) b3 28 (three n3) ∧ TrioP (((W.setRow b1 (three n1)).setRow b2 (three n2)).setRow b3 (three n3)) (((W.setRow b1 (three n1)).setRow b2 (three n2)).setRow b3 (three n3)).heap.size v p q r ∧ Below w.heap.size w (((W.setRow b1 (three n1)).setRow b2 (three n2)).setRow b3 (three n3))) := Lib.hid ⟨((B1.out.2.setRow _).setRowOther _ _ n12).setRowOther _ _ n13, (C2.out.setRow _).setRowOther _ _ n23, C3.out.setRow _, zs3.out.2.2.2.1, zs3.out.2.2.2.2⟩
        have LPK : Hid (∀ W W', (RowAt W b1 28 (three n1) ∧ RowAt W b2 28 (three n2) ∧ RowAt W b3 28 (three n3) ∧ TrioP W W.heap.size v p q r ∧ Below w.heap.size w W) → Below W.heap.size W W' → (RowAt W' b1 28 (three n1) ∧ RowAt W' b2 28 (three n2) ∧ RowAt W' b3 28 (three n3) ∧ TrioP W' W'.heap.size v p q r ∧ Below w.heap.size w W')) := Lib.hid (fun W W' h hB => ⟨h.1.keep hB, h.2.1.keep hB, h.2.2.1.keep hB, (h.2.2.2.1.below hB).mono hB.size, h.2.2.2.2.trans (hB.mono h.2.2.2.2.size)⟩)
        clear hR hA RP RA HS1 HS2 HS3 R8 R9d
        subst eO eQ eS ea
        try simp only [Act.put, List.getElem_toArray, List.getElem_cons_zero, List.getElem_cons_succ, List.setIfInBounds_toArray, List.set_cons_zero, List.set_cons_succ]
        refine wpAnyH_ready (rs := [12]) (by kernel_rfl) (by simp) ?_
        refine AllReadyH.cons rfl (fun K hK => ?_) AllReadyH.nil
        try simp only [List.getElem_toArray, List.getElem_cons_zero, List.getElem_cons_succ]
        rw [if_pos (by rfl)]
        refine wp_store_row _ _ _ rfl _ _ rfl rfl _ _ (B1.out.2) size_w3 rfl (three_one _) ?_
        refine hK.out _ _ (⟨zs1.out.1, zs1.out.2.1, zs1.out.2.2.1⟩) (fun _ => ?_)
        clear hK K
        try simp only [Act.put, List.getElem_toArray, List.getElem_cons_zero, List.getElem_cons_succ, List.setIfInBounds_toArray, List.set_cons_zero, List.set_cons_succ]
        refine wpAnyH_ready (rs := [13]) (by kernel_rfl) (by simp) ?_
        refine AllReadyH.cons rfl (fun K hK => ?_) AllReadyH.nil
        try simp only [List.getElem_toArray, List.getElem_cons_zero, List.getElem_cons_succ]
        rw [if_pos (by rfl)]
        refine wp_store_row _ _ _ rfl _ _ rfl rfl _ _ (C2.out) size_w3 rfl (three_one _) ?_
        refine hK.out _ _ (⟨zs2.out.1, zs2.out.2.1, zs2.out.2.2.1⟩) (fun _ => ?_)
        clear hK K
        try simp only [Act.put, List.getElem_toArray, List.getElem_cons_zero, List.getElem_cons_succ, List.setIfInBounds_toArray, List.set_cons_zero, List.set_cons_succ]
        refine wpAnyH_ready (rs := [14]) (by kernel_rfl) (by simp) ?_
        refine AllReadyH.cons rfl (fun K hK => ?_) AllReadyH.nil
        try simp only [List.getElem_toArray, List.getElem_cons_zero, List.getElem_cons_succ]
        rw [if_pos (by rfl)]
        refine wp_store_row _ _ _ rfl _ _ rfl rfl _ _ (C3.out) size_w3 rfl (three_one _) ?_
        refine hK.out _ _ (⟨zs3.out.1, zs3.out.2.1, zs3.out.2.2.1⟩) (fun _ => ?_)
        clear hK K
        try simp only [Act.put, List.getElem_toArray, List.getElem_cons_zero, List.getElem_cons_succ, List.setIfInBounds_toArray, List.set_cons_zero, List.set_cons_succ]
        refine wpAnyH_done (by kernel_rfl) ?_ _
        go_wp2_with fail
        generalize (((W.setRow b1 (three n1)).setRow b2 (three n2)).setRow b3 (three n3)) = w9 at *
        clear zs0 zs1 zs2 zs3 B1 B2 B3 C2 C3 RS g1 g2 g3 n12 n13 n23
        go_loopw [46] (fun I wr => ∃ i : Nat, I = .int .i64 i ∧ i ≤ 3 ∧ Hid (RowAt wr b1 28 (three n1) ∧ RowAt wr b2 28 (three n2) ∧ RowAt wr b3 28 (three n3) ∧ TrioP wr wr.heap.size v p q r ∧ Below w.heap.size w wr)) (fun I _ => 3 - (intOf I).toNat)
        case atStart => exact ⟨0, rfl, by omega, L0⟩
        case round =>
          clear L0
          obtain ⟨i, rfl, hi, Q⟩ := hrel
          by_cases hlt : i < 3
          · have f0 : (0 : Int) ≤ (i : Int) := by omega
            have f1 : (i : Int) < 3 := by omega
            have e1 := HNx.out i hlt
            have e2 := HNy.out i hlt
            have e3 := HNs.out i hlt
            have HFy : Hid (∀ W, TrioP W W.heap.size v p q r → Calls Tryz.prog 23 #[v, .int .i64 (i : Int)] W fun e w' => (∃ vi gi, e = .returned vi ∧ Fd W W.heap.size vi ((pk p q r i : Nat) : Int) gi) ∧ W = w') := Lib.hid (fun W h => tfield_yes h i hlt)
            have hm1 : pk p q r i < 18446744073709551616 ∧ 0 < pk p q r i := by
              have h1 := HT.out.p3
              have h2 := HT.out.q3
              have h3 := HT.out.r3
              unfold pk
              constructor <;> split <;> (try split) <;> omega
            obtain ⟨m, hm⟩ : ∃ m, m = pk p q r i := ⟨_, rfl⟩
            rw [← hm] at HFy hm1 e1 e2 e3
            obtain ⟨u1, hu1⟩ : ∃ u, u = x % m := ⟨_, rfl⟩
            obtain ⟨u2, hu2⟩ : ∃ u, u = y % m := ⟨_, rfl⟩
            obtain ⟨u3, hu3⟩ : ∃ u, u = s % m := ⟨_, rfl⟩
            have l1 := Nat.mod_lt x hm1.2
            have l2 := Nat.mod_lt y hm1.2
            have hvr : ((u1 : Int) + (u2 : Int)) % (m : Int) = (u3 : Int) := by
              rw [hu1, hu2, hu3, HSs.out, Nat.add_mod x y m]; rfl
            rw [← hu1] at e1 l1
            rw [← hu2] at e2 l2
            rw [← hu3] at e3
            have HAd : Hid (∀ W vi gi, Fd W W.heap.size vi (m : Int) gi → Calls Tryz.prog 31 #[vi, .int .u64 (u1 : Int), .int .u64 (u2 : Int)] W fun e w' => e = .returned (.int .u64 (u3 : Int)) ∧ ∃ n, w' = W.drewN n) := Lib.hid (fun W vi gi h => by
              have h1 := fadd_fd h (u1 : Int) (u2 : Int) (by omega) (by omega) (by omega) (by omega)
              rw [hvr] at h1; exact h1)
            have HSl : Hid (∀ W, (RowAt W b1 28 (three n1) ∧ RowAt W b2 28 (three n2) ∧ RowAt W b3 28 (three n3) ∧ TrioP W W.heap.size v p q r ∧ Below w.heap.size w W) → W.cell? ⟨b3, i, none⟩ = some (.int .u64 (u3 : Int)) ∧ W.cell? ⟨b1, i, none⟩ = some (.int .u64 (u1 : Int)) ∧ W.cell? ⟨b2, i, none⟩ = some (.int .u64 (u2 : Int))) := Lib.hid (fun W h => ⟨by rw [h.2.2.1.cell (three_get _ i hlt), e3], by rw [h.1.cell (three_get _ i hlt), e1], by rw [h.2.1.cell (three_get _ i hlt), e2]⟩)
            have tu : ((u3 : Int) != (u3 : Int)) = false := by simp
            have Q0 : Hid (RowAt (wr.drewN 1) b1 28 (three n1) ∧ RowAt (wr.drewN 1) b2 28 (three n2) ∧ RowAt (wr.drewN 1) b3 28 (three n3) ∧ TrioP (wr.drewN 1) (wr.drewN 1).heap.size v p q r ∧ Below w.heap.size w (wr.drewN 1)) := Lib.hid (LPK.out _ _ Q.out (below_drewN (Below.refl _ _) 1))
            clear hm hm1 hu1 hu2 hu3 e1 e2 e3 hvr l1 l2
            go_wp2_with fail
            change (Code.region _ _ true).wp _ _ _ _
            refine wp_region_held_drew (S := fun wz => wz.cell? ⟨b3, i, none⟩ = some (.int .u64 (u3 : Int)) ∧ wz.cell? ⟨b1, i, none⟩ = some (.int .u64 (u1 : Int)) ∧ wz.cell? ⟨b2, i, none⟩ = some (.int .u64 (u2 : Int))) (by kernel_rfl) ((HSl.out _ Q0.out)) (fun hHeld => ?_)
            refine wpAnyH_take (i := 0) (v := ?_) rfl (by kernel_rfl) (by kernel_rfl) (by kernel_rfl) (fun _ _ _ h => h) (Or.inl ⟨by rfl, ?_⟩) (HSl.out _ Q0.out) ?_
            rotate_left
            · intro w hSw; (try dsimp only at hSw); go_simp; try with_reducible rfl
            try simp only [Act.put, List.getElem_toArray, List.getElem_cons_zero, List.getElem_cons_succ, List.setIfInBounds_toArray, List.set_cons_zero, List.set_cons_succ]
            refine wpAnyH_take (i := 1) (v := ?_) rfl (by kernel_rfl) (by kernel_rfl) (by kernel_rfl) (fun _ _ _ h => h) (Or.inl ⟨by rfl, ?_⟩) (HSl.out _ Q0.out) ?_
            rotate_left
            · intro w hSw; (try dsimp only at hSw); go_simp; try with_reducible rfl
            try simp only [Act.put, List.getElem_toArray, List.getElem_cons_zero, List.getElem_cons_succ, List.setIfInBounds_toArray, List.set_cons_zero, List.set_cons_succ]
            refine wpAnyH_take (i := 2) (v := ?_) rfl (by kernel_rfl) (by kernel_rfl) (by kernel_rfl) (fun _ _ _ h => h) (Or.inl ⟨by rfl, ?_⟩) (HSl.out _ Q0.out) ?_
            rotate_left
            · intro w hSw; (try dsimp only at hSw); go_simp; try with_reducible rfl
            try simp only [Act.put, List.getElem_toArray, List.getElem_cons_zero, List.getElem_cons_succ, List.setIfInBounds_toArray, List.set_cons_zero, List.set_cons_succ]
            refine wpAnyH_take (i := 3) (v := ?_) rfl (by kernel_rfl) (by kernel_rfl) (by kernel_rfl) (fun _ _ _ h => h) (Or.inl ⟨by rfl, ?_⟩) (HSl.out _ Q0.out) ?_
            rotate_left
            · intro w hSw; (try dsimp only at hSw); go_simp; try with_reducible rfl
            try simp only [Act.put, List.getElem_toArray, List.getElem_cons_zero, List.getElem_cons_succ, List.setIfInBounds_toArray, List.set_cons_zero, List.set_cons_succ]
            refine wpAnyH_take (i := 4) (v := ?_) rfl (by kernel_rfl) (by kernel_rfl) (by kernel_rfl) (fun _ _ _ h => h) (Or.inl ⟨by rfl, ?_⟩) (HSl.out _ Q0.out) ?_
            rotate_left
            · intro w hSw; (try dsimp only at hSw); go_simp; try with_reducible rfl
            try simp only [Act.put, List.getElem_toArray, List.getElem_cons_zero, List.getElem_cons_succ, List.setIfInBounds_toArray, List.set_cons_zero, List.set_cons_succ]
            refine wpAnyH_take (i := 6) (v := ?_) rfl (by kernel_rfl) (by kernel_rfl) (by kernel_rfl) (fun _ _ _ h => h) (Or.inl ⟨by rfl, ?_⟩) (HSl.out _ Q0.out) ?_
            rotate_left
            · intro w hSw; (try dsimp only at hSw); go_simp; try with_reducible rfl
            try simp only [Act.put, List.getElem_toArray, List.getElem_cons_zero, List.getElem_cons_succ, List.setIfInBounds_toArray, List.set_cons_zero, List.set_cons_succ]
            refine wpAnyH_take (i := 7) (v := ?_) rfl (by kernel_rfl) (by kernel_rfl) (by kernel_rfl) (fun _ _ _ h => h) (Or.inl ⟨by rfl, ?_⟩) (HSl.out _ Q0.out) ?_
            rotate_left
            · intro w hSw; (try dsimp only at hSw); go_simp; try with_reducible rfl
            try simp only [Act.put, List.getElem_toArray, List.getElem_cons_zero, List.getElem_cons_succ, List.setIfInBounds_toArray, List.set_cons_zero, List.set_cons_succ]
            refine wpAnyH_take (i := 8) (v := ?_) rfl (by kernel_rfl) (by kernel_rfl) (by kernel_rfl) (fun _ _ _ h => h) (Or.inl ⟨by rfl, ?_⟩) (HSl.out _ Q0.out) ?_
            rotate_left
            · intro w hSw; (try dsimp only at hSw); go_simp; try with_reducible rfl
            try simp only [Act.put, List.getElem_toArray, List.getElem_cons_zero, List.getElem_cons_succ, List.setIfInBounds_toArray, List.set_cons_zero, List.set_cons_succ]
            refine wpAnyH_take (i := 9) (v := ?_) rfl (by kernel_rfl) (by kernel_rfl) (by kernel_rfl) (fun _ _ _ h => h) (Or.inl ⟨by rfl, ?_⟩) (HSl.out _ Q0.out) ?_
            rotate_left
            · intro w hSw; (try dsimp only at hSw); go_simp; try with_reducible rfl
            try simp only [Act.put, List.getElem_toArray, List.getElem_cons_zero, List.getElem_cons_succ, List.setIfInBounds_toArray, List.set_cons_zero, List.set_cons_succ]
            refine wpAnyH_take (i := 10) (v := ?_) rfl (by kernel_rfl) (by kernel_rfl) (by kernel_rfl) (fun _ _ _ h => h) (Or.inl ⟨by rfl, ?_⟩) (HSl.out _ Q0.out) ?_
            rotate_left
            · intro w hSw; (try dsimp only at hSw); go_simp; try with_reducible rfl
            try simp only [Act.put, List.getElem_toArray, List.getElem_cons_zero, List.getElem_cons_succ, List.setIfInBounds_toArray, List.set_cons_zero, List.set_cons_succ]
            refine wpAnyH_take (i := 11) (v := ?_) rfl (by kernel_rfl) (by kernel_rfl) (by kernel_rfl) (fun _ _ _ h => h) (Or.inl ⟨by rfl, ?_⟩) (HSl.out _ Q0.out) ?_
            rotate_left
            · intro w hSw; (try dsimp only at hSw); go_simp; try with_reducible rfl
            try simp only [Act.put, List.getElem_toArray, List.getElem_cons_zero, List.getElem_cons_succ, List.setIfInBounds_toArray, List.set_cons_zero, List.set_cons_succ]
            refine wpAnyH_ready (rs := [5]) (by kernel_rfl) (by simp) ?_
            refine AllReadyH.cons rfl (fun K hK => ?_) AllReadyH.nil
            try simp only [List.getElem_toArray, List.getElem_cons_zero, List.getElem_cons_succ]
            rw [if_pos (by rfl)]
            go_wp2_with (go_at_call 23; refine (HFy.out _ Q0.out.2.2.2.1).mono ?_; rintro e y11 ⟨⟨vi, gi, rfl, hFd⟩, hw⟩; subst hw; have HFd := Lib.hid hFd; clear hFd)
            refine hK.out _ _ ((HSl.out _ Q0.out)) (fun _ => ?_)
            clear hK K
            try simp only [Act.put, List.getElem_toArray, List.getElem_cons_zero, List.getElem_cons_succ, List.setIfInBounds_toArray, List.set_cons_zero, List.set_cons_succ]
            refine wpAnyH_ready (rs := [12]) (by kernel_rfl) (by simp) ?_
            refine AllReadyH.cons rfl (fun K hK => ?_) AllReadyH.nil
            try simp only [List.getElem_toArray, List.getElem_cons_zero, List.getElem_cons_succ]
            rw [if_pos (by rfl)]
            go_wp2_with (go_at_call 31; refine (HAd.out _ _ _ HFd.out).mono ?_; rintro e y12 ⟨rfl, na, hw⟩; have Q1 := Lib.hid (LPK.out _ y12 Q0.out (by rw [hw]; exact below_drewN (Below.refl _ _) na)); clear hw)
            refine hK.out _ _ ((HSl.out _ Q1.out)) (fun _ => ?_)
            clear hK K
            try simp only [Act.put, List.getElem_toArray, List.getElem_cons_zero, List.getElem_cons_succ, List.setIfInBounds_toArray, List.set_cons_zero, List.set_cons_succ]
            refine wpAnyH_take (i := 13) (v := ?_) rfl (by kernel_rfl) (by kernel_rfl) (by kernel_rfl) (fun _ _ _ h => h) (Or.inl ⟨by rfl, ?_⟩) (HSl.out _ Q1.out) ?_
            rotate_left
            · intro w hSw; (try dsimp only at hSw); go_simp; try with_reducible rfl
            try simp only [Act.put, List.getElem_toArray, List.getElem_cons_zero, List.getElem_cons_succ, List.setIfInBounds_toArray, List.set_cons_zero, List.set_cons_succ]
            refine wpAnyH_done (by kernel_rfl) ?_ _
            go_wp2
            go_roundw
            case rel => exact ⟨i + 1, by go_num, by omega, Q1⟩
            case measure => simp [intOf]; omega
          · obtain rfl : i = 3 := by omega
            go_wp2
            go_ret
            exact ⟨rfl, Q.out.2.2.2.2⟩
      have N3_111 : ∀ (b1 b2 b3 : Nat) (W : World), ((RowAt W (w.heap.size + 1) 29 (three x) ∧ RowAt W (w.heap.size + 1 + 1) 29 (three y) ∧ RowAt W w6.heap.size 29 (three s) ∧ TrioP W W.heap.size v p q r ∧ Below w.heap.size w W) ∧ AlS W (w6.heap.size + 1) true true true b1 b2 b3) → wpAnyH Tryz.prog .any O Qq S9 3 #[true, true, true, true, true, true, true, true, true, true, true, true, false, false, false] ((((((aa.put (some 39) (.agg (three n1))).put (some 42) (.agg (three n2))).put (some 45) (.agg (three n3))).put (some 13) (.pointer (some ⟨b1, 0, none⟩))).put (some 14) (.pointer (some ⟨b2, 0, none⟩))).put (some 15) (.pointer (some ⟨b3, 0, none⟩))) W := by
        intro b1 b2 b3 W hz0
        exact tail b1 b2 b3 W hz0
      have N3_110 : ∀ (b1 b2 b3 : Nat) (W : World), ((RowAt W (w.heap.size + 1) 29 (three x) ∧ RowAt W (w.heap.size + 1 + 1) 29 (three y) ∧ RowAt W w6.heap.size 29 (three s) ∧ TrioP W W.heap.size v p q r ∧ Below w.heap.size w W) ∧ AlS W (w6.heap.size + 1) true true false b1 b2 b3) → wpAnyH Tryz.prog .any O Qq S9 4 #[true, true, true, true, true, true, true, true, true, true, true, false, false, false, false] (((((aa.put (some 39) (.agg (three n1))).put (some 42) (.agg (three n2))).put (some 45) (.agg (three n3))).put (some 13) (.pointer (some ⟨b1, 0, none⟩))).put (some 14) (.pointer (some ⟨b2, 0, none⟩))) W := by
        intro b1 b2 b3 W hz0
        have z := Lib.hid hz0
        clear hz0
        subst eO eQ eS ea
        try simp only [Act.put, List.getElem_toArray, List.getElem_cons_zero, List.getElem_cons_succ, List.setIfInBounds_toArray, List.set_cons_zero, List.set_cons_succ]
        refine wpAnyH_ready (rs := [11]) (by kernel_rfl) (by simp) ?_
        refine AllReadyH.cons rfl (fun K hK => ?_) ?_
        · try simp only [List.getElem_toArray, List.getElem_cons_zero, List.getElem_cons_succ]
          rw [if_pos (by rfl)]
          go_wp2_with fail
          refine hK.out _ _ (⟨(RA.out _ z.out.1).1, (RA.out _ z.out.1).2.1, (RA.out _ z.out.1).2.2.1⟩) (fun _ => ?_)
          clear hK K
          exact cast_any (N3_111 b1 b2 W.heap.size _ ⟨RA.out _ z.out.1, z.out.2.a3 z.out.1.2.2.1.lt⟩) (by kernel_rfl) (by kernel_rfl)
        exact AllReadyH.nil
      have N3_101 : ∀ (b1 b2 b3 : Nat) (W : World), ((RowAt W (w.heap.size + 1) 29 (three x) ∧ RowAt W (w.heap.size + 1 + 1) 29 (three y) ∧ RowAt W w6.heap.size 29 (three s) ∧ TrioP W W.heap.size v p q r ∧ Below w.heap.size w W) ∧ AlS W (w6.heap.size + 1) true false true b1 b2 b3) → wpAnyH Tryz.prog .any O Qq S9 4 #[true, true, true, true, true, true, true, true, true, true, false, true, false, false, false] (((((aa.put (some 39) (.agg (three n1))).put (some 42) (.agg (three n2))).put (some 45) (.agg (three n3))).put (some 13) (.pointer (some ⟨b1, 0, none⟩))).put (some 15) (.pointer (some ⟨b3, 0, none⟩))) W := by
        intro b1 b2 b3 W hz0
        have z := Lib.hid hz0
        clear hz0
        subst eO eQ eS ea
        try simp only [Act.put, List.getElem_toArray, List.getElem_cons_zero, List.getElem_cons_succ, List.setIfInBounds_toArray, List.set_cons_zero, List.set_cons_succ]
        refine wpAnyH_ready (rs := [10]) (by kernel_rfl) (by simp) ?_
        refine AllReadyH.cons rfl (fun K hK => ?_) ?_
        · try simp only [List.getElem_toArray, List.getElem_cons_zero, List.getElem_cons_succ]
          rw [if_pos (by rfl)]
          go_wp2_with fail
          refine hK.out _ _ (⟨(RA.out _ z.out.1).1, (RA.out _ z.out.1).2.1, (RA.out _ z.out.1).2.2.1⟩) (fun _ => ?_)
          clear hK K
          exact cast_any (N3_111 b1 W.heap.size b3 _ ⟨RA.out _ z.out.1, z.out.2.a2 z.out.1.2.2.1.lt⟩) (by kernel_rfl) (by kernel_rfl)
        exact AllReadyH.nil
      have N3_011 : ∀ (b1 b2 b3 : Nat) (W : World), ((RowAt W (w.heap.size + 1) 29 (three x) ∧ RowAt W (w.heap.size + 1 + 1) 29 (three y) ∧ RowAt W w6.heap.size 29 (three s) ∧ TrioP W W.heap.size v p q r ∧ Below w.heap.size w W) ∧ AlS W (w6.heap.size + 1) false true true b1 b2 b3) → wpAnyH Tryz.prog .any O Qq S9 4 #[true, true, true, true, true, true, true, true, true, false, true, true, false, false, false] (((((aa.put (some 39) (.agg (three n1))).put (some 42) (.agg (three n2))).put (some 45) (.agg (three n3))).put (some 14) (.pointer (some ⟨b2, 0, none⟩))).put (some 15) (.pointer (some ⟨b3, 0, none⟩))) W := by
        intro b1 b2 b3 W hz0
        have z := Lib.hid hz0
        clear hz0
        subst eO eQ eS ea
        try simp only [Act.put, List.getElem_toArray, List.getElem_cons_zero, List.getElem_cons_succ, List.setIfInBounds_toArray, List.set_cons_zero, List.set_cons_succ]
        refine wpAnyH_ready (rs := [9]) (by kernel_rfl) (by simp) ?_
        refine AllReadyH.cons rfl (fun K hK => ?_) ?_
        · try simp only [List.getElem_toArray, List.getElem_cons_zero, List.getElem_cons_succ]
          rw [if_pos (by rfl)]
          go_wp2_with fail
          refine hK.out _ _ (⟨(RA.out _ z.out.1).1, (RA.out _ z.out.1).2.1, (RA.out _ z.out.1).2.2.1⟩) (fun _ => ?_)
          clear hK K
          exact cast_any (N3_111 W.heap.size b2 b3 _ ⟨RA.out _ z.out.1, z.out.2.a1 z.out.1.2.2.1.lt⟩) (by kernel_rfl) (by kernel_rfl)
        exact AllReadyH.nil
      have N3_100 : ∀ (b1 b2 b3 : Nat) (W : World), ((RowAt W (w.heap.size + 1) 29 (three x) ∧ RowAt W (w.heap.size + 1 + 1) 29 (three y) ∧ RowAt W w6.heap.size 29 (three s) ∧ TrioP W W.heap.size v p q r ∧ Below w.heap.size w W) ∧ AlS W (w6.heap.size + 1) true false false b1 b2 b3) → wpAnyH Tryz.prog .any O Qq S9 5 #[true, true, true, true, true, true, true, true, true, true, false, false, false, false, false] ((((aa.put (some 39) (.agg (three n1))).put (some 42) (.agg (three n2))).put (some 45) (.agg (three n3))).put (some 13) (.pointer (some ⟨b1, 0, none⟩))) W := by
        intro b1 b2 b3 W hz0
        have z := Lib.hid hz0
        clear hz0
        subst eO eQ eS ea
        try simp only [Act.put, List.getElem_toArray, List.getElem_cons_zero, List.getElem_cons_succ, List.setIfInBounds_toArray, List.set_cons_zero, List.set_cons_succ]
        refine wpAnyH_ready (rs := [10, 11]) (by kernel_rfl) (by simp) ?_
        refine AllReadyH.cons rfl (fun K hK => ?_) ?_
        · try simp only [List.getElem_toArray, List.getElem_cons_zero, List.getElem_cons_succ]
          rw [if_pos (by rfl)]
          go_wp2_with fail
          refine hK.out _ _ (⟨(RA.out _ z.out.1).1, (RA.out _ z.out.1).2.1, (RA.out _ z.out.1).2.2.1⟩) (fun _ => ?_)
          clear hK K
          exact cast_any (N3_110 b1 W.heap.size b3 _ ⟨RA.out _ z.out.1, z.out.2.a2 z.out.1.2.2.1.lt⟩) (by kernel_rfl) (by kernel_rfl)
        refine AllReadyH.cons rfl (fun K hK => ?_) ?_
        · try simp only [List.getElem_toArray, List.getElem_cons_zero, List.getElem_cons_succ]
          rw [if_pos (by rfl)]
          go_wp2_with fail
          refine hK.out _ _ (⟨(RA.out _ z.out.1).1, (RA.out _ z.out.1).2.1, (RA.out _ z.out.1).2.2.1⟩) (fun _ => ?_)
          clear hK K
          exact cast_any (N3_101 b1 b2 W.heap.size _ ⟨RA.out _ z.out.1, z.out.2.a3 z.out.1.2.2.1.lt⟩) (by kernel_rfl) (by kernel_rfl)
        exact AllReadyH.nil
      have N3_010 : ∀ (b1 b2 b3 : Nat) (W : World), ((RowAt W (w.heap.size + 1) 29 (three x) ∧ RowAt W (w.heap.size + 1 + 1) 29 (three y) ∧ RowAt W w6.heap.size 29 (three s) ∧ TrioP W W.heap.size v p q r ∧ Below w.heap.size w W) ∧ AlS W (w6.heap.size + 1) false true false b1 b2 b3) → wpAnyH Tryz.prog .any O Qq S9 5 #[true, true, true, true, true, true, true, true, true, false, true, false, false, false, false] ((((aa.put (some 39) (.agg (three n1))).put (some 42) (.agg (three n2))).put (some 45) (.agg (three n3))).put (some 14) (.pointer (some ⟨b2, 0, none⟩))) W := by
        intro b1 b2 b3 W hz0
        have z := Lib.hid hz0
        clear hz0
        subst eO eQ eS ea
        try simp only [Act.put, List.getElem_toArray, List.getElem_cons_zero, List.getElem_cons_succ, List.setIfInBounds_toArray, List.set_cons_zero, List.set_cons_succ]
        refine wpAnyH_ready (rs := [9, 11]) (by kernel_rfl) (by simp) ?_
        refine AllReadyH.cons rfl (fun K hK => ?_) ?_
        · try simp only [List.getElem_toArray, List.getElem_cons_zero, List.getElem_cons_succ]
          rw [if_pos (by rfl)]
          go_wp2_with fail
          refine hK.out _ _ (⟨(RA.out _ z.out.1).1, (RA.out _ z.out.1).2.1, (RA.out _ z.out.1).2.2.1⟩) (fun _ => ?_)
          clear hK K
          exact cast_any (N3_110 W.heap.size b2 b3 _ ⟨RA.out _ z.out.1, z.out.2.a1 z.out.1.2.2.1.lt⟩) (by kernel_rfl) (by kernel_rfl)
        refine AllReadyH.cons rfl (fun K hK => ?_) ?_
        · try simp only [List.getElem_toArray, List.getElem_cons_zero, List.getElem_cons_succ]
          rw [if_pos (by rfl)]
          go_wp2_with fail
          refine hK.out _ _ (⟨(RA.out _ z.out.1).1, (RA.out _ z.out.1).2.1, (RA.out _ z.out.1).2.2.1⟩) (fun _ => ?_)
          clear hK K
          exact cast_any (N3_011 b1 b2 W.heap.size _ ⟨RA.out _ z.out.1, z.out.2.a3 z.out.1.2.2.1.lt⟩) (by kernel_rfl) (by kernel_rfl)
        exact AllReadyH.nil
      have N3_001 : ∀ (b1 b2 b3 : Nat) (W : World), ((RowAt W (w.heap.size + 1) 29 (three x) ∧ RowAt W (w.heap.size + 1 + 1) 29 (three y) ∧ RowAt W w6.heap.size 29 (three s) ∧ TrioP W W.heap.size v p q r ∧ Below w.heap.size w W) ∧ AlS W (w6.heap.size + 1) false false true b1 b2 b3) → wpAnyH Tryz.prog .any O Qq S9 5 #[true, true, true, true, true, true, true, true, true, false, false, true, false, false, false] ((((aa.put (some 39) (.agg (three n1))).put (some 42) (.agg (three n2))).put (some 45) (.agg (three n3))).put (some 15) (.pointer (some ⟨b3, 0, none⟩))) W := by
        intro b1 b2 b3 W hz0
        have z := Lib.hid hz0
        clear hz0
        subst eO eQ eS ea
        try simp only [Act.put, List.getElem_toArray, List.getElem_cons_zero, List.getElem_cons_succ, List.setIfInBounds_toArray, List.set_cons_zero, List.set_cons_succ]
        refine wpAnyH_ready (rs := [9, 10]) (by kernel_rfl) (by simp) ?_
        refine AllReadyH.cons rfl (fun K hK => ?_) ?_
        · try simp only [List.getElem_toArray, List.getElem_cons_zero, List.getElem_cons_succ]
          rw [if_pos (by rfl)]
          go_wp2_with fail
          refine hK.out _ _ (⟨(RA.out _ z.out.1).1, (RA.out _ z.out.1).2.1, (RA.out _ z.out.1).2.2.1⟩) (fun _ => ?_)
          clear hK K
          exact cast_any (N3_101 W.heap.size b2 b3 _ ⟨RA.out _ z.out.1, z.out.2.a1 z.out.1.2.2.1.lt⟩) (by kernel_rfl) (by kernel_rfl)
        refine AllReadyH.cons rfl (fun K hK => ?_) ?_
        · try simp only [List.getElem_toArray, List.getElem_cons_zero, List.getElem_cons_succ]
          rw [if_pos (by rfl)]
          go_wp2_with fail
          refine hK.out _ _ (⟨(RA.out _ z.out.1).1, (RA.out _ z.out.1).2.1, (RA.out _ z.out.1).2.2.1⟩) (fun _ => ?_)
          clear hK K
          exact cast_any (N3_011 b1 W.heap.size b3 _ ⟨RA.out _ z.out.1, z.out.2.a2 z.out.1.2.2.1.lt⟩) (by kernel_rfl) (by kernel_rfl)
        exact AllReadyH.nil
      have N3_000 : ∀ (b1 b2 b3 : Nat) (W : World), ((RowAt W (w.heap.size + 1) 29 (three x) ∧ RowAt W (w.heap.size + 1 + 1) 29 (three y) ∧ RowAt W w6.heap.size 29 (three s) ∧ TrioP W W.heap.size v p q r ∧ Below w.heap.size w W) ∧ AlS W (w6.heap.size + 1) false false false b1 b2 b3) → wpAnyH Tryz.prog .any O Qq S9 6 #[true, true, true, true, true, true, true, true, true, false, false, false, false, false, false] (((aa.put (some 39) (.agg (three n1))).put (some 42) (.agg (three n2))).put (some 45) (.agg (three n3))) W := by
        intro b1 b2 b3 W hz0
        have z := Lib.hid hz0
        clear hz0
        subst eO eQ eS ea
        try simp only [Act.put, List.getElem_toArray, List.getElem_cons_zero, List.getElem_cons_succ, List.setIfInBounds_toArray, List.set_cons_zero, List.set_cons_succ]
        refine wpAnyH_ready (rs := [9, 10, 11]) (by kernel_rfl) (by simp) ?_
        refine AllReadyH.cons rfl (fun K hK => ?_) ?_
        · try simp only [List.getElem_toArray, List.getElem_cons_zero, List.getElem_cons_succ]
          rw [if_pos (by rfl)]
          go_wp2_with fail
          refine hK.out _ _ (⟨(RA.out _ z.out.1).1, (RA.out _ z.out.1).2.1, (RA.out _ z.out.1).2.2.1⟩) (fun _ => ?_)
          clear hK K
          exact cast_any (N3_100 W.heap.size b2 b3 _ ⟨RA.out _ z.out.1, z.out.2.a1 z.out.1.2.2.1.lt⟩) (by kernel_rfl) (by kernel_rfl)
        refine AllReadyH.cons rfl (fun K hK => ?_) ?_
        · try simp only [List.getElem_toArray, List.getElem_cons_zero, List.getElem_cons_succ]
          rw [if_pos (by rfl)]
          go_wp2_with fail
          refine hK.out _ _ (⟨(RA.out _ z.out.1).1, (RA.out _ z.out.1).2.1, (RA.out _ z.out.1).2.2.1⟩) (fun _ => ?_)
          clear hK K
          exact cast_any (N3_010 b1 W.heap.size b3 _ ⟨RA.out _ z.out.1, z.out.2.a2 z.out.1.2.2.1.lt⟩) (by kernel_rfl) (by kernel_rfl)
        refine AllReadyH.cons rfl (fun K hK => ?_) ?_
        · try simp only [List.getElem_toArray, List.getElem_cons_zero, List.getElem_cons_succ]
          rw [if_pos (by rfl)]
          go_wp2_with fail
          refine hK.out _ _ (⟨(RA.out _ z.out.1).1, (RA.out _ z.out.1).2.1, (RA.out _ z.out.1).2.2.1⟩) (fun _ => ?_)
          clear hK K
          exact cast_any (N3_001 b1 b2 W.heap.size _ ⟨RA.out _ z.out.1, z.out.2.a3 z.out.1.2.2.1.lt⟩) (by kernel_rfl) (by kernel_rfl)
        exact AllReadyH.nil
      have N2_111 : ∀ (b1 b2 b3 : Nat) (W : World), ((RowAt W (w.heap.size + 1) 29 (three x) ∧ RowAt W (w.heap.size + 1 + 1) 29 (three y) ∧ RowAt W w6.heap.size 29 (three s) ∧ TrioP W W.heap.size v p q r ∧ Below w.heap.size w W) ∧ AlS W (w6.heap.size + 1) true true true b1 b2 b3) → wpAnyH Tryz.prog .any O Qq S9 4 #[true, true, true, true, true, true, true, true, false, true, true, true, false, false, false] (((((aa.put (some 39) (.agg (three n1))).put (some 42) (.agg (three n2))).put (some 13) (.pointer (some ⟨b1, 0, none⟩))).put (some 14) (.pointer (some ⟨b2, 0, none⟩))).put (some 15) (.pointer (some ⟨b3, 0, none⟩))) W := by
        intro b1 b2 b3 W hz0
        have z := Lib.hid hz0
        clear hz0
        subst eO eQ eS ea
        try simp only [Act.put, List.getElem_toArray, List.getElem_cons_zero, List.getElem_cons_succ, List.setIfInBounds_toArray, List.set_cons_zero, List.set_cons_succ]
        refine wpAnyH_ready (rs := [8]) (by kernel_rfl) (by simp) ?_
        refine AllReadyH.cons rfl (fun K hK => ?_) ?_
        · try simp only [List.getElem_toArray, List.getElem_cons_zero, List.getElem_cons_succ]
          rw [if_pos (by rfl)]
          go_wp2_with (go_at_call 26; refine (HS3.out _ z.out.1.2.2.2.1).mono ?_; rintro e W2 ⟨rfl, hY⟩)
          refine hK.out _ _ (⟨(RP.out _ _ z.out.1 hY).1, (RP.out _ _ z.out.1 hY).2.1, (RP.out _ _ z.out.1 hY).2.2.1⟩) (fun _ => ?_)
          clear hK K
          exact cast_any (N3_111 b1 b2 b3 W2 ⟨RP.out _ _ z.out.1 hY, z.out.2.keep hY⟩) (by kernel_rfl) (by kernel_rfl)
        exact AllReadyH.nil
      have N2_110 : ∀ (b1 b2 b3 : Nat) (W : World), ((RowAt W (w.heap.size + 1) 29 (three x) ∧ RowAt W (w.heap.size + 1 + 1) 29 (three y) ∧ RowAt W w6.heap.size 29 (three s) ∧ TrioP W W.heap.size v p q r ∧ Below w.heap.size w W) ∧ AlS W (w6.heap.size + 1) true true false b1 b2 b3) → wpAnyH Tryz.prog .any O Qq S9 5 #[true, true, true, true, true, true, true, true, false, true, true, false, false, false, false] ((((aa.put (some 39) (.agg (three n1))).put (some 42) (.agg (three n2))).put (some 13) (.pointer (some ⟨b1, 0, none⟩))).put (some 14) (.pointer (some ⟨b2, 0, none⟩))) W := by
        intro b1 b2 b3 W hz0
        have z := Lib.hid hz0
        clear hz0
        subst eO eQ eS ea
        try simp only [Act.put, List.getElem_toArray, List.getElem_cons_zero, List.getElem_cons_succ, List.setIfInBounds_toArray, List.set_cons_zero, List.set_cons_succ]
        refine wpAnyH_ready (rs := [8, 11]) (by kernel_rfl) (by simp) ?_
        refine AllReadyH.cons rfl (fun K hK => ?_) ?_
        · try simp only [List.getElem_toArray, List.getElem_cons_zero, List.getElem_cons_succ]
          rw [if_pos (by rfl)]
          go_wp2_with (go_at_call 26; refine (HS3.out _ z.out.1.2.2.2.1).mono ?_; rintro e W2 ⟨rfl, hY⟩)
          refine hK.out _ _ (⟨(RP.out _ _ z.out.1 hY).1, (RP.out _ _ z.out.1 hY).2.1, (RP.out _ _ z.out.1 hY).2.2.1⟩) (fun _ => ?_)
          clear hK K
          exact cast_any (N3_110 b1 b2 b3 W2 ⟨RP.out _ _ z.out.1 hY, z.out.2.keep hY⟩) (by kernel_rfl) (by kernel_rfl)
        refine AllReadyH.cons rfl (fun K hK => ?_) ?_
        · try simp only [List.getElem_toArray, List.getElem_cons_zero, List.getElem_cons_succ]
          rw [if_pos (by rfl)]
          go_wp2_with fail
          refine hK.out _ _ (⟨(RA.out _ z.out.1).1, (RA.out _ z.out.1).2.1, (RA.out _ z.out.1).2.2.1⟩) (fun _ => ?_)
          clear hK K
          exact cast_any (N2_111 b1 b2 W.heap.size _ ⟨RA.out _ z.out.1, z.out.2.a3 z.out.1.2.2.1.lt⟩) (by kernel_rfl) (by kernel_rfl)
        exact AllReadyH.nil
      have N2_101 : ∀ (b1 b2 b3 : Nat) (W : World), ((RowAt W (w.heap.size + 1) 29 (three x) ∧ RowAt W (w.heap.size + 1 + 1) 29 (three y) ∧ RowAt W w6.heap.size 29 (three s) ∧ TrioP W W.heap.size v p q r ∧ Below w.heap.size w W) ∧ AlS W (w6.heap.size + 1) true false true b1 b2 b3) → wpAnyH Tryz.prog .any O Qq S9 5 #[true, true, true, true, true, true, true, true, false, true, false, true, false, false, false] ((((aa.put (some 39) (.agg (three n1))).put (some 42) (.agg (three n2))).put (some 13) (.pointer (some ⟨b1, 0, none⟩))).put (some 15) (.pointer (some ⟨b3, 0, none⟩))) W := by
        intro b1 b2 b3 W hz0
        have z := Lib.hid hz0
        clear hz0
        subst eO eQ eS ea
        try simp only [Act.put, List.getElem_toArray, List.getElem_cons_zero, List.getElem_cons_succ, List.setIfInBounds_toArray, List.set_cons_zero, List.set_cons_succ]
        refine wpAnyH_ready (rs := [8, 10]) (by kernel_rfl) (by simp) ?_
        refine AllReadyH.cons rfl (fun K hK => ?_) ?_
        · try simp only [List.getElem_toArray, List.getElem_cons_zero, List.getElem_cons_succ]
          rw [if_pos (by rfl)]
          go_wp2_with (go_at_call 26; refine (HS3.out _ z.out.1.2.2.2.1).mono ?_; rintro e W2 ⟨rfl, hY⟩)
          refine hK.out _ _ (⟨(RP.out _ _ z.out.1 hY).1, (RP.out _ _ z.out.1 hY).2.1, (RP.out _ _ z.out.1 hY).2.2.1⟩) (fun _ => ?_)
          clear hK K
          exact cast_any (N3_101 b1 b2 b3 W2 ⟨RP.out _ _ z.out.1 hY, z.out.2.keep hY⟩) (by kernel_rfl) (by kernel_rfl)
        refine AllReadyH.cons rfl (fun K hK => ?_) ?_
        · try simp only [List.getElem_toArray, List.getElem_cons_zero, List.getElem_cons_succ]
          rw [if_pos (by rfl)]
          go_wp2_with fail
          refine hK.out _ _ (⟨(RA.out _ z.out.1).1, (RA.out _ z.out.1).2.1, (RA.out _ z.out.1).2.2.1⟩) (fun _ => ?_)
          clear hK K
          exact cast_any (N2_111 b1 W.heap.size b3 _ ⟨RA.out _ z.out.1, z.out.2.a2 z.out.1.2.2.1.lt⟩) (by kernel_rfl) (by kernel_rfl)
        exact AllReadyH.nil
      have N2_011 : ∀ (b1 b2 b3 : Nat) (W : World), ((RowAt W (w.heap.size + 1) 29 (three x) ∧ RowAt W (w.heap.size + 1 + 1) 29 (three y) ∧ RowAt W w6.heap.size 29 (three s) ∧ TrioP W W.heap.size v p q r ∧ Below w.heap.size w W) ∧ AlS W (w6.heap.size + 1) false true true b1 b2 b3) → wpAnyH Tryz.prog .any O Qq S9 5 #[true, true, true, true, true, true, true, true, false, false, true, true, false, false, false] ((((aa.put (some 39) (.agg (three n1))).put (some 42) (.agg (three n2))).put (some 14) (.pointer (some ⟨b2, 0, none⟩))).put (some 15) (.pointer (some ⟨b3, 0, none⟩))) W := by
        intro b1 b2 b3 W hz0
        have z := Lib.hid hz0
        clear hz0
        subst eO eQ eS ea
        try simp only [Act.put, List.getElem_toArray, List.getElem_cons_zero, List.getElem_cons_succ, List.setIfInBounds_toArray, List.set_cons_zero, List.set_cons_succ]
        refine wpAnyH_ready (rs := [8, 9]) (by kernel_rfl) (by simp) ?_
        refine AllReadyH.cons rfl (fun K hK => ?_) ?_
        · try simp only [List.getElem_toArray, List.getElem_cons_zero, List.getElem_cons_succ]
          rw [if_pos (by rfl)]
          go_wp2_with (go_at_call 26; refine (HS3.out _ z.out.1.2.2.2.1).mono ?_; rintro e W2 ⟨rfl, hY⟩)
          refine hK.out _ _ (⟨(RP.out _ _ z.out.1 hY).1, (RP.out _ _ z.out.1 hY).2.1, (RP.out _ _ z.out.1 hY).2.2.1⟩) (fun _ => ?_)
          clear hK K
          exact cast_any (N3_011 b1 b2 b3 W2 ⟨RP.out _ _ z.out.1 hY, z.out.2.keep hY⟩) (by kernel_rfl) (by kernel_rfl)
        refine AllReadyH.cons rfl (fun K hK => ?_) ?_
        · try simp only [List.getElem_toArray, List.getElem_cons_zero, List.getElem_cons_succ]
          rw [if_pos (by rfl)]
          go_wp2_with fail
          refine hK.out _ _ (⟨(RA.out _ z.out.1).1, (RA.out _ z.out.1).2.1, (RA.out _ z.out.1).2.2.1⟩) (fun _ => ?_)
          clear hK K
          exact cast_any (N2_111 W.heap.size b2 b3 _ ⟨RA.out _ z.out.1, z.out.2.a1 z.out.1.2.2.1.lt⟩) (by kernel_rfl) (by kernel_rfl)
        exact AllReadyH.nil
      have N2_100 : ∀ (b1 b2 b3 : Nat) (W : World), ((RowAt W (w.heap.size + 1) 29 (three x) ∧ RowAt W (w.heap.size + 1 + 1) 29 (three y) ∧ RowAt W w6.heap.size 29 (three s) ∧ TrioP W W.heap.size v p q r ∧ Below w.heap.size w W) ∧ AlS W (w6.heap.size + 1) true false false b1 b2 b3) → wpAnyH Tryz.prog .any O Qq S9 6 #[true, true, true, true, true, true, true, true, false, true, false, false, false, false, false] (((aa.put (some 39) (.agg (three n1))).put (some 42) (.agg (three n2))).put (some 13) (.pointer (some ⟨b1, 0, none⟩))) W := by
        intro b1 b2 b3 W hz0
        have z := Lib.hid hz0
        clear hz0
        subst eO eQ eS ea
        try simp only [Act.put, List.getElem_toArray, List.getElem_cons_zero, List.getElem_cons_succ, List.setIfInBounds_toArray, List.set_cons_zero, List.set_cons_succ]
        refine wpAnyH_ready (rs := [8, 10, 11]) (by kernel_rfl) (by simp) ?_
        refine AllReadyH.cons rfl (fun K hK => ?_) ?_
        · try simp only [List.getElem_toArray, List.getElem_cons_zero, List.getElem_cons_succ]
          rw [if_pos (by rfl)]
          go_wp2_with (go_at_call 26; refine (HS3.out _ z.out.1.2.2.2.1).mono ?_; rintro e W2 ⟨rfl, hY⟩)
          refine hK.out _ _ (⟨(RP.out _ _ z.out.1 hY).1, (RP.out _ _ z.out.1 hY).2.1, (RP.out _ _ z.out.1 hY).2.2.1⟩) (fun _ => ?_)
          clear hK K
          exact cast_any (N3_100 b1 b2 b3 W2 ⟨RP.out _ _ z.out.1 hY, z.out.2.keep hY⟩) (by kernel_rfl) (by kernel_rfl)
        refine AllReadyH.cons rfl (fun K hK => ?_) ?_
        · try simp only [List.getElem_toArray, List.getElem_cons_zero, List.getElem_cons_succ]
          rw [if_pos (by rfl)]
          go_wp2_with fail
          refine hK.out _ _ (⟨(RA.out _ z.out.1).1, (RA.out _ z.out.1).2.1, (RA.out _ z.out.1).2.2.1⟩) (fun _ => ?_)
          clear hK K
          exact cast_any (N2_110 b1 W.heap.size b3 _ ⟨RA.out _ z.out.1, z.out.2.a2 z.out.1.2.2.1.lt⟩) (by kernel_rfl) (by kernel_rfl)
        refine AllReadyH.cons rfl (fun K hK => ?_) ?_
        · try simp only [List.getElem_toArray, List.getElem_cons_zero, List.getElem_cons_succ]
          rw [if_pos (by rfl)]
          go_wp2_with fail
          refine hK.out _ _ (⟨(RA.out _ z.out.1).1, (RA.out _ z.out.1).2.1, (RA.out _ z.out.1).2.2.1⟩) (fun _ => ?_)
          clear hK K
          exact cast_any (N2_101 b1 b2 W.heap.size _ ⟨RA.out _ z.out.1, z.out.2.a3 z.out.1.2.2.1.lt⟩) (by kernel_rfl) (by kernel_rfl)
        exact AllReadyH.nil
      have N2_010 : ∀ (b1 b2 b3 : Nat) (W : World), ((RowAt W (w.heap.size + 1) 29 (three x) ∧ RowAt W (w.heap.size + 1 + 1) 29 (three y) ∧ RowAt W w6.heap.size 29 (three s) ∧ TrioP W W.heap.size v p q r ∧ Below w.heap.size w W) ∧ AlS W (w6.heap.size + 1) false true false b1 b2 b3) → wpAnyH Tryz.prog .any O Qq S9 6 #[true, true, true, true, true, true, true, true, false, false, true, false, false, false, false] (((aa.put (some 39) (.agg (three n1))).put (some 42) (.agg (three n2))).put (some 14) (.pointer (some ⟨b2, 0, none⟩))) W := by
        intro b1 b2 b3 W hz0
        have z := Lib.hid hz0
        clear hz0
        subst eO eQ eS ea
        try simp only [Act.put, List.getElem_toArray, List.getElem_cons_zero, List.getElem_cons_succ, List.setIfInBounds_toArray, List.set_cons_zero, List.set_cons_succ]
        refine wpAnyH_ready (rs := [8, 9, 11]) (by kernel_rfl) (by simp) ?_
        refine AllReadyH.cons rfl (fun K hK => ?_) ?_
        · try simp only [List.getElem_toArray, List.getElem_cons_zero, List.getElem_cons_succ]
          rw [if_pos (by rfl)]
          go_wp2_with (go_at_call 26; refine (HS3.out _ z.out.1.2.2.2.1).mono ?_; rintro e W2 ⟨rfl, hY⟩)
          refine hK.out _ _ (⟨(RP.out _ _ z.out.1 hY).1, (RP.out _ _ z.out.1 hY).2.1, (RP.out _ _ z.out.1 hY).2.2.1⟩) (fun _ => ?_)
          clear hK K
          exact cast_any (N3_010 b1 b2 b3 W2 ⟨RP.out _ _ z.out.1 hY, z.out.2.keep hY⟩) (by kernel_rfl) (by kernel_rfl)
        refine AllReadyH.cons rfl (fun K hK => ?_) ?_
        · try simp only [List.getElem_toArray, List.getElem_cons_zero, List.getElem_cons_succ]
          rw [if_pos (by rfl)]
          go_wp2_with fail
          refine hK.out _ _ (⟨(RA.out _ z.out.1).1, (RA.out _ z.out.1).2.1, (RA.out _ z.out.1).2.2.1⟩) (fun _ => ?_)
          clear hK K
          exact cast_any (N2_110 W.heap.size b2 b3 _ ⟨RA.out _ z.out.1, z.out.2.a1 z.out.1.2.2.1.lt⟩) (by kernel_rfl) (by kernel_rfl)
        refine AllReadyH.cons rfl (fun K hK => ?_) ?_
        · try simp only [List.getElem_toArray, List.getElem_cons_zero, List.getElem_cons_succ]
          rw [if_pos (by rfl)]
          go_wp2_with fail
          refine hK.out _ _ (⟨(RA.out _ z.out.1).1, (RA.out _ z.out.1).2.1, (RA.out _ z.out.1).2.2.1⟩) (fun _ => ?_)
          clear hK K
          exact cast_any (N2_011 b1 b2 W.heap.size _ ⟨RA.out _ z.out.1, z.out.2.a3 z.out.1.2.2.1.lt⟩) (by kernel_rfl) (by kernel_rfl)
        exact AllReadyH.nil
      have N2_001 : ∀ (b1 b2 b3 : Nat) (W : World), ((RowAt W (w.heap.size + 1) 29 (three x) ∧ RowAt W (w.heap.size + 1 + 1) 29 (three y) ∧ RowAt W w6.heap.size 29 (three s) ∧ TrioP W W.heap.size v p q r ∧ Below w.heap.size w W) ∧ AlS W (w6.heap.size + 1) false false true b1 b2 b3) → wpAnyH Tryz.prog .any O Qq S9 6 #[true, true, true, true, true, true, true, true, false, false, false, true, false, false, false] (((aa.put (some 39) (.agg (three n1))).put (some 42) (.agg (three n2))).put (some 15) (.pointer (some ⟨b3, 0, none⟩))) W := by
        intro b1 b2 b3 W hz0
        have z := Lib.hid hz0
        clear hz0
        subst eO eQ eS ea
        try simp only [Act.put, List.getElem_toArray, List.getElem_cons_zero, List.getElem_cons_succ, List.setIfInBounds_toArray, List.set_cons_zero, List.set_cons_succ]
        refine wpAnyH_ready (rs := [8, 9, 10]) (by kernel_rfl) (by simp) ?_
        refine AllReadyH.cons rfl (fun K hK => ?_) ?_
        · try simp only [List.getElem_toArray, List.getElem_cons_zero, List.getElem_cons_succ]
          rw [if_pos (by rfl)]
          go_wp2_with (go_at_call 26; refine (HS3.out _ z.out.1.2.2.2.1).mono ?_; rintro e W2 ⟨rfl, hY⟩)
          refine hK.out _ _ (⟨(RP.out _ _ z.out.1 hY).1, (RP.out _ _ z.out.1 hY).2.1, (RP.out _ _ z.out.1 hY).2.2.1⟩) (fun _ => ?_)
          clear hK K
          exact cast_any (N3_001 b1 b2 b3 W2 ⟨RP.out _ _ z.out.1 hY, z.out.2.keep hY⟩) (by kernel_rfl) (by kernel_rfl)
        refine AllReadyH.cons rfl (fun K hK => ?_) ?_
        · try simp only [List.getElem_toArray, List.getElem_cons_zero, List.getElem_cons_succ]
          rw [if_pos (by rfl)]
          go_wp2_with fail
          refine hK.out _ _ (⟨(RA.out _ z.out.1).1, (RA.out _ z.out.1).2.1, (RA.out _ z.out.1).2.2.1⟩) (fun _ => ?_)
          clear hK K
          exact cast_any (N2_101 W.heap.size b2 b3 _ ⟨RA.out _ z.out.1, z.out.2.a1 z.out.1.2.2.1.lt⟩) (by kernel_rfl) (by kernel_rfl)
        refine AllReadyH.cons rfl (fun K hK => ?_) ?_
        · try simp only [List.getElem_toArray, List.getElem_cons_zero, List.getElem_cons_succ]
          rw [if_pos (by rfl)]
          go_wp2_with fail
          refine hK.out _ _ (⟨(RA.out _ z.out.1).1, (RA.out _ z.out.1).2.1, (RA.out _ z.out.1).2.2.1⟩) (fun _ => ?_)
          clear hK K
          exact cast_any (N2_011 b1 W.heap.size b3 _ ⟨RA.out _ z.out.1, z.out.2.a2 z.out.1.2.2.1.lt⟩) (by kernel_rfl) (by kernel_rfl)
        exact AllReadyH.nil
      have N2_000 : ∀ (b1 b2 b3 : Nat) (W : World), ((RowAt W (w.heap.size + 1) 29 (three x) ∧ RowAt W (w.heap.size + 1 + 1) 29 (three y) ∧ RowAt W w6.heap.size 29 (three s) ∧ TrioP W W.heap.size v p q r ∧ Below w.heap.size w W) ∧ AlS W (w6.heap.size + 1) false false false b1 b2 b3) → wpAnyH Tryz.prog .any O Qq S9 7 #[true, true, true, true, true, true, true, true, false, false, false, false, false, false, false] ((aa.put (some 39) (.agg (three n1))).put (some 42) (.agg (three n2))) W := by
        intro b1 b2 b3 W hz0
        have z := Lib.hid hz0
        clear hz0
        subst eO eQ eS ea
        try simp only [Act.put, List.getElem_toArray, List.getElem_cons_zero, List.getElem_cons_succ, List.setIfInBounds_toArray, List.set_cons_zero, List.set_cons_succ]
        refine wpAnyH_ready (rs := [8, 9, 10, 11]) (by kernel_rfl) (by simp) ?_
        refine AllReadyH.cons rfl (fun K hK => ?_) ?_
        · try simp only [List.getElem_toArray, List.getElem_cons_zero, List.getElem_cons_succ]
          rw [if_pos (by rfl)]
          go_wp2_with (go_at_call 26; refine (HS3.out _ z.out.1.2.2.2.1).mono ?_; rintro e W2 ⟨rfl, hY⟩)
          refine hK.out _ _ (⟨(RP.out _ _ z.out.1 hY).1, (RP.out _ _ z.out.1 hY).2.1, (RP.out _ _ z.out.1 hY).2.2.1⟩) (fun _ => ?_)
          clear hK K
          exact cast_any (N3_000 b1 b2 b3 W2 ⟨RP.out _ _ z.out.1 hY, z.out.2.keep hY⟩) (by kernel_rfl) (by kernel_rfl)
        refine AllReadyH.cons rfl (fun K hK => ?_) ?_
        · try simp only [List.getElem_toArray, List.getElem_cons_zero, List.getElem_cons_succ]
          rw [if_pos (by rfl)]
          go_wp2_with fail
          refine hK.out _ _ (⟨(RA.out _ z.out.1).1, (RA.out _ z.out.1).2.1, (RA.out _ z.out.1).2.2.1⟩) (fun _ => ?_)
          clear hK K
          exact cast_any (N2_100 W.heap.size b2 b3 _ ⟨RA.out _ z.out.1, z.out.2.a1 z.out.1.2.2.1.lt⟩) (by kernel_rfl) (by kernel_rfl)
        refine AllReadyH.cons rfl (fun K hK => ?_) ?_
        · try simp only [List.getElem_toArray, List.getElem_cons_zero, List.getElem_cons_succ]
          rw [if_pos (by rfl)]
          go_wp2_with fail
          refine hK.out _ _ (⟨(RA.out _ z.out.1).1, (RA.out _ z.out.1).2.1, (RA.out _ z.out.1).2.2.1⟩) (fun _ => ?_)
          clear hK K
          exact cast_any (N2_010 b1 W.heap.size b3 _ ⟨RA.out _ z.out.1, z.out.2.a2 z.out.1.2.2.1.lt⟩) (by kernel_rfl) (by kernel_rfl)
        refine AllReadyH.cons rfl (fun K hK => ?_) ?_
        · try simp only [List.getElem_toArray, List.getElem_cons_zero, List.getElem_cons_succ]
          rw [if_pos (by rfl)]
          go_wp2_with fail
          refine hK.out _ _ (⟨(RA.out _ z.out.1).1, (RA.out _ z.out.1).2.1, (RA.out _ z.out.1).2.2.1⟩) (fun _ => ?_)
          clear hK K
          exact cast_any (N2_001 b1 b2 W.heap.size _ ⟨RA.out _ z.out.1, z.out.2.a3 z.out.1.2.2.1.lt⟩) (by kernel_rfl) (by kernel_rfl)
        exact AllReadyH.nil
      have N1_111 : ∀ (b1 b2 b3 : Nat) (W : World), ((RowAt W (w.heap.size + 1) 29 (three x) ∧ RowAt W (w.heap.size + 1 + 1) 29 (three y) ∧ RowAt W w6.heap.size 29 (three s) ∧ TrioP W W.heap.size v p q r ∧ Below w.heap.size w W) ∧ AlS W (w6.heap.size + 1) true true true b1 b2 b3) → wpAnyH Tryz.prog .any O Qq S9 5 #[true, true, true, true, true, false, true, true, false, true, true, true, false, false, false] ((((aa.put (some 39) (.agg (three n1))).put (some 13) (.pointer (some ⟨b1, 0, none⟩))).put (some 14) (.pointer (some ⟨b2, 0, none⟩))).put (some 15) (.pointer (some ⟨b3, 0, none⟩))) W := by
        intro b1 b2 b3 W hz0
        have z := Lib.hid hz0
        clear hz0
        subst eO eQ eS ea
        try simp only [Act.put, List.getElem_toArray, List.getElem_cons_zero, List.getElem_cons_succ, List.setIfInBounds_toArray, List.set_cons_zero, List.set_cons_succ]
        refine wpAnyH_ready (rs := [5]) (by kernel_rfl) (by simp) ?_
        refine AllReadyH.cons rfl (fun K hK => ?_) ?_
        · try simp only [List.getElem_toArray, List.getElem_cons_zero, List.getElem_cons_succ]
          rw [if_pos (by rfl)]
          go_wp2_with (go_at_call 26; refine (HS2.out _ z.out.1.2.2.2.1).mono ?_; rintro e W2 ⟨rfl, hY⟩)
          refine hK.out _ _ (⟨(RP.out _ _ z.out.1 hY).1, (RP.out _ _ z.out.1 hY).2.1, (RP.out _ _ z.out.1 hY).2.2.1⟩) (fun _ => ?_)
          clear hK K
          exact cast_any (N2_111 b1 b2 b3 W2 ⟨RP.out _ _ z.out.1 hY, z.out.2.keep hY⟩) (by kernel_rfl) (by kernel_rfl)
        exact AllReadyH.nil
      have N1_110 : ∀ (b1 b2 b3 : Nat) (W : World), ((RowAt W (w.heap.size + 1) 29 (three x) ∧ RowAt W (w.heap.size + 1 + 1) 29 (three y) ∧ RowAt W w6.heap.size 29 (three s) ∧ TrioP W W.heap.size v p q r ∧ Below w.heap.size w W) ∧ AlS W (w6.heap.size + 1) true true false b1 b2 b3) → wpAnyH Tryz.prog .any O Qq S9 6 #[true, true, true, true, true, false, true, true, false, true, true, false, false, false, false] (((aa.put (some 39) (.agg (three n1))).put (some 13) (.pointer (some ⟨b1, 0, none⟩))).put (some 14) (.pointer (some ⟨b2, 0, none⟩))) W := by
        intro b1 b2 b3 W hz0
        have z := Lib.hid hz0
        clear hz0
        subst eO eQ eS ea
        try simp only [Act.put, List.getElem_toArray, List.getElem_cons_zero, List.getElem_cons_succ, List.setIfInBounds_toArray, List.set_cons_zero, List.set_cons_succ]
        refine wpAnyH_ready (rs := [5, 11]) (by kernel_rfl) (by simp) ?_
        refine AllReadyH.cons rfl (fun K hK => ?_) ?_
        · try simp only [List.getElem_toArray, List.getElem_cons_zero, List.getElem_cons_succ]
          rw [if_pos (by rfl)]
          go_wp2_with (go_at_call 26; refine (HS2.out _ z.out.1.2.2.2.1).mono ?_; rintro e W2 ⟨rfl, hY⟩)
          refine hK.out _ _ (⟨(RP.out _ _ z.out.1 hY).1, (RP.out _ _ z.out.1 hY).2.1, (RP.out _ _ z.out.1 hY).2.2.1⟩) (fun _ => ?_)
          clear hK K
          exact cast_any (N2_110 b1 b2 b3 W2 ⟨RP.out _ _ z.out.1 hY, z.out.2.keep hY⟩) (by kernel_rfl) (by kernel_rfl)
        refine AllReadyH.cons rfl (fun K hK => ?_) ?_
        · try simp only [List.getElem_toArray, List.getElem_cons_zero, List.getElem_cons_succ]
          rw [if_pos (by rfl)]
          go_wp2_with fail
          refine hK.out _ _ (⟨(RA.out _ z.out.1).1, (RA.out _ z.out.1).2.1, (RA.out _ z.out.1).2.2.1⟩) (fun _ => ?_)
          clear hK K
          exact cast_any (N1_111 b1 b2 W.heap.size _ ⟨RA.out _ z.out.1, z.out.2.a3 z.out.1.2.2.1.lt⟩) (by kernel_rfl) (by kernel_rfl)
        exact AllReadyH.nil
      have N1_101 : ∀ (b1 b2 b3 : Nat) (W : World), ((RowAt W (w.heap.size + 1) 29 (three x) ∧ RowAt W (w.heap.size + 1 + 1) 29 (three y) ∧ RowAt W w6.heap.size 29 (three s) ∧ TrioP W W.heap.size v p q r ∧ Below w.heap.size w W) ∧ AlS W (w6.heap.size + 1) true false true b1 b2 b3) → wpAnyH Tryz.prog .any O Qq S9 6 #[true, true, true, true, true, false, true, true, false, true, false, true, false, false, false] (((aa.put (some 39) (.agg (three n1))).put (some 13) (.pointer (some ⟨b1, 0, none⟩))).put (some 15) (.pointer (some ⟨b3, 0, none⟩))) W := by
        intro b1 b2 b3 W hz0
        have z := Lib.hid hz0
        clear hz0
        subst eO eQ eS ea
        try simp only [Act.put, List.getElem_toArray, List.getElem_cons_zero, List.getElem_cons_succ, List.setIfInBounds_toArray, List.set_cons_zero, List.set_cons_succ]
        refine wpAnyH_ready (rs := [5, 10]) (by kernel_rfl) (by simp) ?_
        refine AllReadyH.cons rfl (fun K hK => ?_) ?_
        · try simp only [List.getElem_toArray, List.getElem_cons_zero, List.getElem_cons_succ]
          rw [if_pos (by rfl)]
          go_wp2_with (go_at_call 26; refine (HS2.out _ z.out.1.2.2.2.1).mono ?_; rintro e W2 ⟨rfl, hY⟩)
          refine hK.out _ _ (⟨(RP.out _ _ z.out.1 hY).1, (RP.out _ _ z.out.1 hY).2.1, (RP.out _ _ z.out.1 hY).2.2.1⟩) (fun _ => ?_)
          clear hK K
          exact cast_any (N2_101 b1 b2 b3 W2 ⟨RP.out _ _ z.out.1 hY, z.out.2.keep hY⟩) (by kernel_rfl) (by kernel_rfl)
        refine AllReadyH.cons rfl (fun K hK => ?_) ?_
        · try simp only [List.getElem_toArray, List.getElem_cons_zero, List.getElem_cons_succ]
          rw [if_pos (by rfl)]
          go_wp2_with fail
          refine hK.out _ _ (⟨(RA.out _ z.out.1).1, (RA.out _ z.out.1).2.1, (RA.out _ z.out.1).2.2.1⟩) (fun _ => ?_)
          clear hK K
          exact cast_any (N1_111 b1 W.heap.size b3 _ ⟨RA.out _ z.out.1, z.out.2.a2 z.out.1.2.2.1.lt⟩) (by kernel_rfl) (by kernel_rfl)
        exact AllReadyH.nil
      have N1_011 : ∀ (b1 b2 b3 : Nat) (W : World), ((RowAt W (w.heap.size + 1) 29 (three x) ∧ RowAt W (w.heap.size + 1 + 1) 29 (three y) ∧ RowAt W w6.heap.size 29 (three s) ∧ TrioP W W.heap.size v p q r ∧ Below w.heap.size w W) ∧ AlS W (w6.heap.size + 1) false true true b1 b2 b3) → wpAnyH Tryz.prog .any O Qq S9 6 #[true, true, true, true, true, false, true, true, false, false, true, true, false, false, false] (((aa.put (some 39) (.agg (three n1))).put (some 14) (.pointer (some ⟨b2, 0, none⟩))).put (some 15) (.pointer (some ⟨b3, 0, none⟩))) W := by
        intro b1 b2 b3 W hz0
        have z := Lib.hid hz0
        clear hz0
        subst eO eQ eS ea
        try simp only [Act.put, List.getElem_toArray, List.getElem_cons_zero, List.getElem_cons_succ, List.setIfInBounds_toArray, List.set_cons_zero, List.set_cons_succ]
        refine wpAnyH_ready (rs := [5, 9]) (by kernel_rfl) (by simp) ?_
        refine AllReadyH.cons rfl (fun K hK => ?_) ?_
        · try simp only [List.getElem_toArray, List.getElem_cons_zero, List.getElem_cons_succ]
          rw [if_pos (by rfl)]
          go_wp2_with (go_at_call 26; refine (HS2.out _ z.out.1.2.2.2.1).mono ?_; rintro e W2 ⟨rfl, hY⟩)
          refine hK.out _ _ (⟨(RP.out _ _ z.out.1 hY).1, (RP.out _ _ z.out.1 hY).2.1, (RP.out _ _ z.out.1 hY).2.2.1⟩) (fun _ => ?_)
          clear hK K
          exact cast_any (N2_011 b1 b2 b3 W2 ⟨RP.out _ _ z.out.1 hY, z.out.2.keep hY⟩) (by kernel_rfl) (by kernel_rfl)
        refine AllReadyH.cons rfl (fun K hK => ?_) ?_
        · try simp only [List.getElem_toArray, List.getElem_cons_zero, List.getElem_cons_succ]
          rw [if_pos (by rfl)]
          go_wp2_with fail
          refine hK.out _ _ (⟨(RA.out _ z.out.1).1, (RA.out _ z.out.1).2.1, (RA.out _ z.out.1).2.2.1⟩) (fun _ => ?_)
          clear hK K
          exact cast_any (N1_111 W.heap.size b2 b3 _ ⟨RA.out _ z.out.1, z.out.2.a1 z.out.1.2.2.1.lt⟩) (by kernel_rfl) (by kernel_rfl)
        exact AllReadyH.nil
      have N1_100 : ∀ (b1 b2 b3 : Nat) (W : World), ((RowAt W (w.heap.size + 1) 29 (three x) ∧ RowAt W (w.heap.size + 1 + 1) 29 (three y) ∧ RowAt W w6.heap.size 29 (three s) ∧ TrioP W W.heap.size v p q r ∧ Below w.heap.size w W) ∧ AlS W (w6.heap.size + 1) true false false b1 b2 b3) → wpAnyH Tryz.prog .any O Qq S9 7 #[true, true, true, true, true, false, true, true, false, true, false, false, false, false, false] ((aa.put (some 39) (.agg (three n1))).put (some 13) (.pointer (some ⟨b1, 0, none⟩))) W := by
        intro b1 b2 b3 W hz0
        have z := Lib.hid hz0
        clear hz0
        subst eO eQ eS ea
        try simp only [Act.put, List.getElem_toArray, List.getElem_cons_zero, List.getElem_cons_succ, List.setIfInBounds_toArray, List.set_cons_zero, List.set_cons_succ]
        refine wpAnyH_ready (rs := [5, 10, 11]) (by kernel_rfl) (by simp) ?_
        refine AllReadyH.cons rfl (fun K hK => ?_) ?_
        · try simp only [List.getElem_toArray, List.getElem_cons_zero, List.getElem_cons_succ]
          rw [if_pos (by rfl)]
          go_wp2_with (go_at_call 26; refine (HS2.out _ z.out.1.2.2.2.1).mono ?_; rintro e W2 ⟨rfl, hY⟩)
          refine hK.out _ _ (⟨(RP.out _ _ z.out.1 hY).1, (RP.out _ _ z.out.1 hY).2.1, (RP.out _ _ z.out.1 hY).2.2.1⟩) (fun _ => ?_)
          clear hK K
          exact cast_any (N2_100 b1 b2 b3 W2 ⟨RP.out _ _ z.out.1 hY, z.out.2.keep hY⟩) (by kernel_rfl) (by kernel_rfl)
        refine AllReadyH.cons rfl (fun K hK => ?_) ?_
        · try simp only [List.getElem_toArray, List.getElem_cons_zero, List.getElem_cons_succ]
          rw [if_pos (by rfl)]
          go_wp2_with fail
          refine hK.out _ _ (⟨(RA.out _ z.out.1).1, (RA.out _ z.out.1).2.1, (RA.out _ z.out.1).2.2.1⟩) (fun _ => ?_)
          clear hK K
          exact cast_any (N1_110 b1 W.heap.size b3 _ ⟨RA.out _ z.out.1, z.out.2.a2 z.out.1.2.2.1.lt⟩) (by kernel_rfl) (by kernel_rfl)
        refine AllReadyH.cons rfl (fun K hK => ?_) ?_
        · try simp only [List.getElem_toArray, List.getElem_cons_zero, List.getElem_cons_succ]
          rw [if_pos (by rfl)]
          go_wp2_with fail
          refine hK.out _ _ (⟨(RA.out _ z.out.1).1, (RA.out _ z.out.1).2.1, (RA.out _ z.out.1).2.2.1⟩) (fun _ => ?_)
          clear hK K
          exact cast_any (N1_101 b1 b2 W.heap.size _ ⟨RA.out _ z.out.1, z.out.2.a3 z.out.1.2.2.1.lt⟩) (by kernel_rfl) (by kernel_rfl)
        exact AllReadyH.nil
      have N1_010 : ∀ (b1 b2 b3 : Nat) (W : World), ((RowAt W (w.heap.size + 1) 29 (three x) ∧ RowAt W (w.heap.size + 1 + 1) 29 (three y) ∧ RowAt W w6.heap.size 29 (three s) ∧ TrioP W W.heap.size v p q r ∧ Below w.heap.size w W) ∧ AlS W (w6.heap.size + 1) false true false b1 b2 b3) → wpAnyH Tryz.prog .any O Qq S9 7 #[true, true, true, true, true, false, true, true, false, false, true, false, false, false, false] ((aa.put (some 39) (.agg (three n1))).put (some 14) (.pointer (some ⟨b2, 0, none⟩))) W := by
        intro b1 b2 b3 W hz0
        have z := Lib.hid hz0
        clear hz0
        subst eO eQ eS ea
        try simp only [Act.put, List.getElem_toArray, List.getElem_cons_zero, List.getElem_cons_succ, List.setIfInBounds_toArray, List.set_cons_zero, List.set_cons_succ]
        refine wpAnyH_ready (rs := [5, 9, 11]) (by kernel_rfl) (by simp) ?_
        refine AllReadyH.cons rfl (fun K hK => ?_) ?_
        · try simp only [List.getElem_toArray, List.getElem_cons_zero, List.getElem_cons_succ]
          rw [if_pos (by rfl)]
          go_wp2_with (go_at_call 26; refine (HS2.out _ z.out.1.2.2.2.1).mono ?_; rintro e W2 ⟨rfl, hY⟩)
          refine hK.out _ _ (⟨(RP.out _ _ z.out.1 hY).1, (RP.out _ _ z.out.1 hY).2.1, (RP.out _ _ z.out.1 hY).2.2.1⟩) (fun _ => ?_)
          clear hK K
          exact cast_any (N2_010 b1 b2 b3 W2 ⟨RP.out _ _ z.out.1 hY, z.out.2.keep hY⟩) (by kernel_rfl) (by kernel_rfl)
        refine AllReadyH.cons rfl (fun K hK => ?_) ?_
        · try simp only [List.getElem_toArray, List.getElem_cons_zero, List.getElem_cons_succ]
          rw [if_pos (by rfl)]
          go_wp2_with fail
          refine hK.out _ _ (⟨(RA.out _ z.out.1).1, (RA.out _ z.out.1).2.1, (RA.out _ z.out.1).2.2.1⟩) (fun _ => ?_)
          clear hK K
          exact cast_any (N1_110 W.heap.size b2 b3 _ ⟨RA.out _ z.out.1, z.out.2.a1 z.out.1.2.2.1.lt⟩) (by kernel_rfl) (by kernel_rfl)
        refine AllReadyH.cons rfl (fun K hK => ?_) ?_
        · try simp only [List.getElem_toArray, List.getElem_cons_zero, List.getElem_cons_succ]
          rw [if_pos (by rfl)]
          go_wp2_with fail
          refine hK.out _ _ (⟨(RA.out _ z.out.1).1, (RA.out _ z.out.1).2.1, (RA.out _ z.out.1).2.2.1⟩) (fun _ => ?_)
          clear hK K
          exact cast_any (N1_011 b1 b2 W.heap.size _ ⟨RA.out _ z.out.1, z.out.2.a3 z.out.1.2.2.1.lt⟩) (by kernel_rfl) (by kernel_rfl)
        exact AllReadyH.nil
      have N1_001 : ∀ (b1 b2 b3 : Nat) (W : World), ((RowAt W (w.heap.size + 1) 29 (three x) ∧ RowAt W (w.heap.size + 1 + 1) 29 (three y) ∧ RowAt W w6.heap.size 29 (three s) ∧ TrioP W W.heap.size v p q r ∧ Below w.heap.size w W) ∧ AlS W (w6.heap.size + 1) false false true b1 b2 b3) → wpAnyH Tryz.prog .any O Qq S9 7 #[true, true, true, true, true, false, true, true, false, false, false, true, false, false, false] ((aa.put (some 39) (.agg (three n1))).put (some 15) (.pointer (some ⟨b3, 0, none⟩))) W := by
        intro b1 b2 b3 W hz0
        have z := Lib.hid hz0
        clear hz0
        subst eO eQ eS ea
        try simp only [Act.put, List.getElem_toArray, List.getElem_cons_zero, List.getElem_cons_succ, List.setIfInBounds_toArray, List.set_cons_zero, List.set_cons_succ]
        refine wpAnyH_ready (rs := [5, 9, 10]) (by kernel_rfl) (by simp) ?_
        refine AllReadyH.cons rfl (fun K hK => ?_) ?_
        · try simp only [List.getElem_toArray, List.getElem_cons_zero, List.getElem_cons_succ]
          rw [if_pos (by rfl)]
          go_wp2_with (go_at_call 26; refine (HS2.out _ z.out.1.2.2.2.1).mono ?_; rintro e W2 ⟨rfl, hY⟩)
          refine hK.out _ _ (⟨(RP.out _ _ z.out.1 hY).1, (RP.out _ _ z.out.1 hY).2.1, (RP.out _ _ z.out.1 hY).2.2.1⟩) (fun _ => ?_)
          clear hK K
          exact cast_any (N2_001 b1 b2 b3 W2 ⟨RP.out _ _ z.out.1 hY, z.out.2.keep hY⟩) (by kernel_rfl) (by kernel_rfl)
        refine AllReadyH.cons rfl (fun K hK => ?_) ?_
        · try simp only [List.getElem_toArray, List.getElem_cons_zero, List.getElem_cons_succ]
          rw [if_pos (by rfl)]
          go_wp2_with fail
          refine hK.out _ _ (⟨(RA.out _ z.out.1).1, (RA.out _ z.out.1).2.1, (RA.out _ z.out.1).2.2.1⟩) (fun _ => ?_)
          clear hK K
          exact cast_any (N1_101 W.heap.size b2 b3 _ ⟨RA.out _ z.out.1, z.out.2.a1 z.out.1.2.2.1.lt⟩) (by kernel_rfl) (by kernel_rfl)
        refine AllReadyH.cons rfl (fun K hK => ?_) ?_
        · try simp only [List.getElem_toArray, List.getElem_cons_zero, List.getElem_cons_succ]
          rw [if_pos (by rfl)]
          go_wp2_with fail
          refine hK.out _ _ (⟨(RA.out _ z.out.1).1, (RA.out _ z.out.1).2.1, (RA.out _ z.out.1).2.2.1⟩) (fun _ => ?_)
          clear hK K
          exact cast_any (N1_011 b1 W.heap.size b3 _ ⟨RA.out _ z.out.1, z.out.2.a2 z.out.1.2.2.1.lt⟩) (by kernel_rfl) (by kernel_rfl)
        exact AllReadyH.nil
      have N1_000 : ∀ (b1 b2 b3 : Nat) (W : World), ((RowAt W (w.heap.size + 1) 29 (three x) ∧ RowAt W (w.heap.size + 1 + 1) 29 (three y) ∧ RowAt W w6.heap.size 29 (three s) ∧ TrioP W W.heap.size v p q r ∧ Below w.heap.size w W) ∧ AlS W (w6.heap.size + 1) false false false b1 b2 b3) → wpAnyH Tryz.prog .any O Qq S9 8 #[true, true, true, true, true, false, true, true, false, false, false, false, false, false, false] (aa.put (some 39) (.agg (three n1))) W := by
        intro b1 b2 b3 W hz0
        have z := Lib.hid hz0
        clear hz0
        subst eO eQ eS ea
        try simp only [Act.put, List.getElem_toArray, List.getElem_cons_zero, List.getElem_cons_succ, List.setIfInBounds_toArray, List.set_cons_zero, List.set_cons_succ]
        refine wpAnyH_ready (rs := [5, 9, 10, 11]) (by kernel_rfl) (by simp) ?_
        refine AllReadyH.cons rfl (fun K hK => ?_) ?_
        · try simp only [List.getElem_toArray, List.getElem_cons_zero, List.getElem_cons_succ]
          rw [if_pos (by rfl)]
          go_wp2_with (go_at_call 26; refine (HS2.out _ z.out.1.2.2.2.1).mono ?_; rintro e W2 ⟨rfl, hY⟩)
          refine hK.out _ _ (⟨(RP.out _ _ z.out.1 hY).1, (RP.out _ _ z.out.1 hY).2.1, (RP.out _ _ z.out.1 hY).2.2.1⟩) (fun _ => ?_)
          clear hK K
          exact cast_any (N2_000 b1 b2 b3 W2 ⟨RP.out _ _ z.out.1 hY, z.out.2.keep hY⟩) (by kernel_rfl) (by kernel_rfl)
        refine AllReadyH.cons rfl (fun K hK => ?_) ?_
        · try simp only [List.getElem_toArray, List.getElem_cons_zero, List.getElem_cons_succ]
          rw [if_pos (by rfl)]
          go_wp2_with fail
          refine hK.out _ _ (⟨(RA.out _ z.out.1).1, (RA.out _ z.out.1).2.1, (RA.out _ z.out.1).2.2.1⟩) (fun _ => ?_)
          clear hK K
          exact cast_any (N1_100 W.heap.size b2 b3 _ ⟨RA.out _ z.out.1, z.out.2.a1 z.out.1.2.2.1.lt⟩) (by kernel_rfl) (by kernel_rfl)
        refine AllReadyH.cons rfl (fun K hK => ?_) ?_
        · try simp only [List.getElem_toArray, List.getElem_cons_zero, List.getElem_cons_succ]
          rw [if_pos (by rfl)]
          go_wp2_with fail
          refine hK.out _ _ (⟨(RA.out _ z.out.1).1, (RA.out _ z.out.1).2.1, (RA.out _ z.out.1).2.2.1⟩) (fun _ => ?_)
          clear hK K
          exact cast_any (N1_010 b1 W.heap.size b3 _ ⟨RA.out _ z.out.1, z.out.2.a2 z.out.1.2.2.1.lt⟩) (by kernel_rfl) (by kernel_rfl)
        refine AllReadyH.cons rfl (fun K hK => ?_) ?_
        · try simp only [List.getElem_toArray, List.getElem_cons_zero, List.getElem_cons_succ]
          rw [if_pos (by rfl)]
          go_wp2_with fail
          refine hK.out _ _ (⟨(RA.out _ z.out.1).1, (RA.out _ z.out.1).2.1, (RA.out _ z.out.1).2.2.1⟩) (fun _ => ?_)
          clear hK K
          exact cast_any (N1_001 b1 b2 W.heap.size _ ⟨RA.out _ z.out.1, z.out.2.a3 z.out.1.2.2.1.lt⟩) (by kernel_rfl) (by kernel_rfl)
        exact AllReadyH.nil
      have N0_111 : ∀ (b1 b2 b3 : Nat) (W : World), ((RowAt W (w.heap.size + 1) 29 (three x) ∧ RowAt W (w.heap.size + 1 + 1) 29 (three y) ∧ RowAt W w6.heap.size 29 (three s) ∧ TrioP W W.heap.size v p q r ∧ Below w.heap.size w W) ∧ AlS W (w6.heap.size + 1) true true true b1 b2 b3) → wpAnyH Tryz.prog .any O Qq S9 6 #[true, true, false, true, true, false, true, true, false, true, true, true, false, false, false] (((aa.put (some 13) (.pointer (some ⟨b1, 0, none⟩))).put (some 14) (.pointer (some ⟨b2, 0, none⟩))).put (some 15) (.pointer (some ⟨b3, 0, none⟩))) W := by
        intro b1 b2 b3 W hz0
        have z := Lib.hid hz0
        clear hz0
        subst eO eQ eS ea
        try simp only [Act.put, List.getElem_toArray, List.getElem_cons_zero, List.getElem_cons_succ, List.setIfInBounds_toArray, List.set_cons_zero, List.set_cons_succ]
        refine wpAnyH_ready (rs := [2]) (by kernel_rfl) (by simp) ?_
        refine AllReadyH.cons rfl (fun K hK => ?_) ?_
        · try simp only [List.getElem_toArray, List.getElem_cons_zero, List.getElem_cons_succ]
          rw [if_pos (by rfl)]
          go_wp2_with (go_at_call 26; refine (HS1.out _ z.out.1.2.2.2.1).mono ?_; rintro e W2 ⟨rfl, hY⟩)
          refine hK.out _ _ (⟨(RP.out _ _ z.out.1 hY).1, (RP.out _ _ z.out.1 hY).2.1, (RP.out _ _ z.out.1 hY).2.2.1⟩) (fun _ => ?_)
          clear hK K
          exact cast_any (N1_111 b1 b2 b3 W2 ⟨RP.out _ _ z.out.1 hY, z.out.2.keep hY⟩) (by kernel_rfl) (by kernel_rfl)
        exact AllReadyH.nil
      have N0_110 : ∀ (b1 b2 b3 : Nat) (W : World), ((RowAt W (w.heap.size + 1) 29 (three x) ∧ RowAt W (w.heap.size + 1 + 1) 29 (three y) ∧ RowAt W w6.heap.size 29 (three s) ∧ TrioP W W.heap.size v p q r ∧ Below w.heap.size w W) ∧ AlS W (w6.heap.size + 1) true true false b1 b2 b3) → wpAnyH Tryz.prog .any O Qq S9 7 #[true, true, false, true, true, false, true, true, false, true, true, false, false, false, false] ((aa.put (some 13) (.pointer (some ⟨b1, 0, none⟩))).put (some 14) (.pointer (some ⟨b2, 0, none⟩))) W := by
        intro b1 b2 b3 W hz0
        have z := Lib.hid hz0
        clear hz0
        subst eO eQ eS ea
        try simp only [Act.put, List.getElem_toArray, List.getElem_cons_zero, List.getElem_cons_succ, List.setIfInBounds_toArray, List.set_cons_zero, List.set_cons_succ]
        refine wpAnyH_ready (rs := [2, 11]) (by kernel_rfl) (by simp) ?_
        refine AllReadyH.cons rfl (fun K hK => ?_) ?_
        · try simp only [List.getElem_toArray, List.getElem_cons_zero, List.getElem_cons_succ]
          rw [if_pos (by rfl)]
          go_wp2_with (go_at_call 26; refine (HS1.out _ z.out.1.2.2.2.1).mono ?_; rintro e W2 ⟨rfl, hY⟩)
          refine hK.out _ _ (⟨(RP.out _ _ z.out.1 hY).1, (RP.out _ _ z.out.1 hY).2.1, (RP.out _ _ z.out.1 hY).2.2.1⟩) (fun _ => ?_)
          clear hK K
          exact cast_any (N1_110 b1 b2 b3 W2 ⟨RP.out _ _ z.out.1 hY, z.out.2.keep hY⟩) (by kernel_rfl) (by kernel_rfl)
        refine AllReadyH.cons rfl (fun K hK => ?_) ?_
        · try simp only [List.getElem_toArray, List.getElem_cons_zero, List.getElem_cons_succ]
          rw [if_pos (by rfl)]
          go_wp2_with fail
          refine hK.out _ _ (⟨(RA.out _ z.out.1).1, (RA.out _ z.out.1).2.1, (RA.out _ z.out.1).2.2.1⟩) (fun _ => ?_)
          clear hK K
          exact cast_any (N0_111 b1 b2 W.heap.size _ ⟨RA.out _ z.out.1, z.out.2.a3 z.out.1.2.2.1.lt⟩) (by kernel_rfl) (by kernel_rfl)
        exact AllReadyH.nil
      have N0_101 : ∀ (b1 b2 b3 : Nat) (W : World), ((RowAt W (w.heap.size + 1) 29 (three x) ∧ RowAt W (w.heap.size + 1 + 1) 29 (three y) ∧ RowAt W w6.heap.size 29 (three s) ∧ TrioP W W.heap.size v p q r ∧ Below w.heap.size w W) ∧ AlS W (w6.heap.size + 1) true false true b1 b2 b3) → wpAnyH Tryz.prog .any O Qq S9 7 #[true, true, false, true, true, false, true, true, false, true, false, true, false, false, false] ((aa.put (some 13) (.pointer (some ⟨b1, 0, none⟩))).put (some 15) (.pointer (some ⟨b3, 0, none⟩))) W := by
        intro b1 b2 b3 W hz0
        have z := Lib.hid hz0
        clear hz0
        subst eO eQ eS ea
        try simp only [Act.put, List.getElem_toArray, List.getElem_cons_zero, List.getElem_cons_succ, List.setIfInBounds_toArray, List.set_cons_zero, List.set_cons_succ]
        refine wpAnyH_ready (rs := [2, 10]) (by kernel_rfl) (by simp) ?_
        refine AllReadyH.cons rfl (fun K hK => ?_) ?_
        · try simp only [List.getElem_toArray, List.getElem_cons_zero, List.getElem_cons_succ]
          rw [if_pos (by rfl)]
          go_wp2_with (go_at_call 26; refine (HS1.out _ z.out.1.2.2.2.1).mono ?_; rintro e W2 ⟨rfl, hY⟩)
          refine hK.out _ _ (⟨(RP.out _ _ z.out.1 hY).1, (RP.out _ _ z.out.1 hY).2.1, (RP.out _ _ z.out.1 hY).2.2.1⟩) (fun _ => ?_)
          clear hK K
          exact cast_any (N1_101 b1 b2 b3 W2 ⟨RP.out _ _ z.out.1 hY, z.out.2.keep hY⟩) (by kernel_rfl) (by kernel_rfl)
        refine AllReadyH.cons rfl (fun K hK => ?_) ?_
        · try simp only [List.getElem_toArray, List.getElem_cons_zero, List.getElem_cons_succ]
          rw [if_pos (by rfl)]
          go_wp2_with fail
          refine hK.out _ _ (⟨(RA.out _ z.out.1).1, (RA.out _ z.out.1).2.1, (RA.out _ z.out.1).2.2.1⟩) (fun _ => ?_)
          clear hK K
          exact cast_any (N0_111 b1 W.heap.size b3 _ ⟨RA.out _ z.out.1, z.out.2.a2 z.out.1.2.2.1.lt⟩) (by kernel_rfl) (by kernel_rfl)
        exact AllReadyH.nil
      have N0_011 : ∀ (b1 b2 b3 : Nat) (W : World), ((RowAt W (w.heap.size + 1) 29 (three x) ∧ RowAt W (w.heap.size + 1 + 1) 29 (three y) ∧ RowAt W w6.heap.size 29 (three s) ∧ TrioP W W.heap.size v p q r ∧ Below w.heap.size w W) ∧ AlS W (w6.heap.size + 1) false true true b1 b2 b3) → wpAnyH Tryz.prog .any O Qq S9 7 #[true, true, false, true, true, false, true, true, false, false, true, true, false, false, false] ((aa.put (some 14) (.pointer (some ⟨b2, 0, none⟩))).put (some 15) (.pointer (some ⟨b3, 0, none⟩))) W := by
        intro b1 b2 b3 W hz0
        have z := Lib.hid hz0
        clear hz0
        subst eO eQ eS ea
        try simp only [Act.put, List.getElem_toArray, List.getElem_cons_zero, List.getElem_cons_succ, List.setIfInBounds_toArray, List.set_cons_zero, List.set_cons_succ]
        refine wpAnyH_ready (rs := [2, 9]) (by kernel_rfl) (by simp) ?_
        refine AllReadyH.cons rfl (fun K hK => ?_) ?_
        · try simp only [List.getElem_toArray, List.getElem_cons_zero, List.getElem_cons_succ]
          rw [if_pos (by rfl)]
          go_wp2_with (go_at_call 26; refine (HS1.out _ z.out.1.2.2.2.1).mono ?_; rintro e W2 ⟨rfl, hY⟩)
          refine hK.out _ _ (⟨(RP.out _ _ z.out.1 hY).1, (RP.out _ _ z.out.1 hY).2.1, (RP.out _ _ z.out.1 hY).2.2.1⟩) (fun _ => ?_)
          clear hK K
          exact cast_any (N1_011 b1 b2 b3 W2 ⟨RP.out _ _ z.out.1 hY, z.out.2.keep hY⟩) (by kernel_rfl) (by kernel_rfl)
        refine AllReadyH.cons rfl (fun K hK => ?_) ?_
        · try simp only [List.getElem_toArray, List.getElem_cons_zero, List.getElem_cons_succ]
          rw [if_pos (by rfl)]
          go_wp2_with fail
          refine hK.out _ _ (⟨(RA.out _ z.out.1).1, (RA.out _ z.out.1).2.1, (RA.out _ z.out.1).2.2.1⟩) (fun _ => ?_)
          clear hK K
          exact cast_any (N0_111 W.heap.size b2 b3 _ ⟨RA.out _ z.out.1, z.out.2.a1 z.out.1.2.2.1.lt⟩) (by kernel_rfl) (by kernel_rfl)
        exact AllReadyH.nil
      have N0_100 : ∀ (b1 b2 b3 : Nat) (W : World), ((RowAt W (w.heap.size + 1) 29 (three x) ∧ RowAt W (w.heap.size + 1 + 1) 29 (three y) ∧ RowAt W w6.heap.size 29 (three s) ∧ TrioP W W.heap.size v p q r ∧ Below w.heap.size w W) ∧ AlS W (w6.heap.size + 1) true false false b1 b2 b3) → wpAnyH Tryz.prog .any O Qq S9 8 #[true, true, false, true, true, false, true, true, false, true, false, false, false, false, false] (aa.put (some 13) (.pointer (some ⟨b1, 0, none⟩))) W := by
        intro b1 b2 b3 W hz0
        have z := Lib.hid hz0
        clear hz0
        subst eO eQ eS ea
        try simp only [Act.put, List.getElem_toArray, List.getElem_cons_zero, List.getElem_cons_succ, List.setIfInBounds_toArray, List.set_cons_zero, List.set_cons_succ]
        refine wpAnyH_ready (rs := [2, 10, 11]) (by kernel_rfl) (by simp) ?_
        refine AllReadyH.cons rfl (fun K hK => ?_) ?_
        · try simp only [List.getElem_toArray, List.getElem_cons_zero, List.getElem_cons_succ]
          rw [if_pos (by rfl)]
          go_wp2_with (go_at_call 26; refine (HS1.out _ z.out.1.2.2.2.1).mono ?_; rintro e W2 ⟨rfl, hY⟩)
          refine hK.out _ _ (⟨(RP.out _ _ z.out.1 hY).1, (RP.out _ _ z.out.1 hY).2.1, (RP.out _ _ z.out.1 hY).2.2.1⟩) (fun _ => ?_)
          clear hK K
          exact cast_any (N1_100 b1 b2 b3 W2 ⟨RP.out _ _ z.out.1 hY, z.out.2.keep hY⟩) (by kernel_rfl) (by kernel_rfl)
        refine AllReadyH.cons rfl (fun K hK => ?_) ?_
        · try simp only [List.getElem_toArray, List.getElem_cons_zero, List.getElem_cons_succ]
          rw [if_pos (by rfl)]
          go_wp2_with fail
          refine hK.out _ _ (⟨(RA.out _ z.out.1).1, (RA.out _ z.out.1).2.1, (RA.out _ z.out.1).2.2.1⟩) (fun _ => ?_)
          clear hK K
          exact cast_any (N0_110 b1 W.heap.size b3 _ ⟨RA.out _ z.out.1, z.out.2.a2 z.out.1.2.2.1.lt⟩) (by kernel_rfl) (by kernel_rfl)
        refine AllReadyH.cons rfl (fun K hK => ?_) ?_
        · try simp only [List.getElem_toArray, List.getElem_cons_zero, List.getElem_cons_succ]
          rw [if_pos (by rfl)]
          go_wp2_with fail
          refine hK.out _ _ (⟨(RA.out _ z.out.1).1, (RA.out _ z.out.1).2.1, (RA.out _ z.out.1).2.2.1⟩) (fun _ => ?_)
          clear hK K
          exact cast_any (N0_101 b1 b2 W.heap.size _ ⟨RA.out _ z.out.1, z.out.2.a3 z.out.1.2.2.1.lt⟩) (by kernel_rfl) (by kernel_rfl)
        exact AllReadyH.nil
      have N0_010 : ∀ (b1 b2 b3 : Nat) (W : World), ((RowAt W (w.heap.size + 1) 29 (three x) ∧ RowAt W (w.heap.size + 1 + 1) 29 (three y) ∧ RowAt W w6.heap.size 29 (three s) ∧ TrioP W W.heap.size v p q r ∧ Below w.heap.size w W) ∧ AlS W (w6.heap.size + 1) false true false b1 b2 b3) → wpAnyH Tryz.prog .any O Qq S9 8 #[true, true, false, true, true, false, true, true, false, false, true, false, false, false, false] (aa.put (some 14) (.pointer (some ⟨b2, 0, none⟩))) W := by
        intro b1 b2 b3 W hz0
        have z := Lib.hid hz0
        clear hz0
        subst eO eQ eS ea
        try simp only [Act.put, List.getElem_toArray, List.getElem_cons_zero, List.getElem_cons_succ, List.setIfInBounds_toArray, List.set_cons_zero, List.set_cons_succ]
        refine wpAnyH_ready (rs := [2, 9, 11]) (by kernel_rfl) (by simp) ?_
        refine AllReadyH.cons rfl (fun K hK => ?_) ?_
        · try simp only [List.getElem_toArray, List.getElem_cons_zero, List.getElem_cons_succ]
          rw [if_pos (by rfl)]
          go_wp2_with (go_at_call 26; refine (HS1.out _ z.out.1.2.2.2.1).mono ?_; rintro e W2 ⟨rfl, hY⟩)
          refine hK.out _ _ (⟨(RP.out _ _ z.out.1 hY).1, (RP.out _ _ z.out.1 hY).2.1, (RP.out _ _ z.out.1 hY).2.2.1⟩) (fun _ => ?_)
          clear hK K
          exact cast_any (N1_010 b1 b2 b3 W2 ⟨RP.out _ _ z.out.1 hY, z.out.2.keep hY⟩) (by kernel_rfl) (by kernel_rfl)
        refine AllReadyH.cons rfl (fun K hK => ?_) ?_
        · try simp only [List.getElem_toArray, List.getElem_cons_zero, List.getElem_cons_succ]
          rw [if_pos (by rfl)]
          go_wp2_with fail
          refine hK.out _ _ (⟨(RA.out _ z.out.1).1, (RA.out _ z.out.1).2.1, (RA.out _ z.out.1).2.2.1⟩) (fun _ => ?_)
          clear hK K
          exact cast_any (N0_110 W.heap.size b2 b3 _ ⟨RA.out _ z.out.1, z.out.2.a1 z.out.1.2.2.1.lt⟩) (by kernel_rfl) (by kernel_rfl)
        refine AllReadyH.cons rfl (fun K hK => ?_) ?_
        · try simp only [List.getElem_toArray, List.getElem_cons_zero, List.getElem_cons_succ]
          rw [if_pos (by rfl)]
          go_wp2_with fail
          refine hK.out _ _ (⟨(RA.out _ z.out.1).1, (RA.out _ z.out.1).2.1, (RA.out _ z.out.1).2.2.1⟩) (fun _ => ?_)
          clear hK K
          exact cast_any (N0_011 b1 b2 W.heap.size _ ⟨RA.out _ z.out.1, z.out.2.a3 z.out.1.2.2.1.lt⟩) (by kernel_rfl) (by kernel_rfl)
        exact AllReadyH.nil
      have N0_001 : ∀ (b1 b2 b3 : Nat) (W : World), ((RowAt W (w.heap.size + 1) 29 (three x) ∧ RowAt W (w.heap.size + 1 + 1) 29 (three y) ∧ RowAt W w6.heap.size 29 (three s) ∧ TrioP W W.heap.size v p q r ∧ Below w.heap.size w W) ∧ AlS W (w6.heap.size + 1) false false true b1 b2 b3) → wpAnyH Tryz.prog .any O Qq S9 8 #[true, true, false, true, true, false, true, true, false, false, false, true, false, false, false] (aa.put (some 15) (.pointer (some ⟨b3, 0, none⟩))) W := by
        intro b1 b2 b3 W hz0
        have z := Lib.hid hz0
        clear hz0
        subst eO eQ eS ea
        try simp only [Act.put, List.getElem_toArray, List.getElem_cons_zero, List.getElem_cons_succ, List.setIfInBounds_toArray, List.set_cons_zero, List.set_cons_succ]
        refine wpAnyH_ready (rs := [2, 9, 10]) (by kernel_rfl) (by simp) ?_
        refine AllReadyH.cons rfl (fun K hK => ?_) ?_
        · try simp only [List.getElem_toArray, List.getElem_cons_zero, List.getElem_cons_succ]
          rw [if_pos (by rfl)]
          go_wp2_with (go_at_call 26; refine (HS1.out _ z.out.1.2.2.2.1).mono ?_; rintro e W2 ⟨rfl, hY⟩)
          refine hK.out _ _ (⟨(RP.out _ _ z.out.1 hY).1, (RP.out _ _ z.out.1 hY).2.1, (RP.out _ _ z.out.1 hY).2.2.1⟩) (fun _ => ?_)
          clear hK K
          exact cast_any (N1_001 b1 b2 b3 W2 ⟨RP.out _ _ z.out.1 hY, z.out.2.keep hY⟩) (by kernel_rfl) (by kernel_rfl)
        refine AllReadyH.cons rfl (fun K hK => ?_) ?_
        · try simp only [List.getElem_toArray, List.getElem_cons_zero, List.getElem_cons_succ]
          rw [if_pos (by rfl)]
          go_wp2_with fail
          refine hK.out _ _ (⟨(RA.out _ z.out.1).1, (RA.out _ z.out.1).2.1, (RA.out _ z.out.1).2.2.1⟩) (fun _ => ?_)
          clear hK K
          exact cast_any (N0_101 W.heap.size b2 b3 _ ⟨RA.out _ z.out.1, z.out.2.a1 z.out.1.2.2.1.lt⟩) (by kernel_rfl) (by kernel_rfl)
        refine AllReadyH.cons rfl (fun K hK => ?_) ?_
        · try simp only [List.getElem_toArray, List.getElem_cons_zero, List.getElem_cons_succ]
          rw [if_pos (by rfl)]
          go_wp2_with fail
          refine hK.out _ _ (⟨(RA.out _ z.out.1).1, (RA.out _ z.out.1).2.1, (RA.out _ z.out.1).2.2.1⟩) (fun _ => ?_)
          clear hK K
          exact cast_any (N0_011 b1 W.heap.size b3 _ ⟨RA.out _ z.out.1, z.out.2.a2 z.out.1.2.2.1.lt⟩) (by kernel_rfl) (by kernel_rfl)
        exact AllReadyH.nil
      have N0_000 : ∀ (b1 b2 b3 : Nat) (W : World), ((RowAt W (w.heap.size + 1) 29 (three x) ∧ RowAt W (w.heap.size + 1 + 1) 29 (three y) ∧ RowAt W w6.heap.size 29 (three s) ∧ TrioP W W.heap.size v p q r ∧ Below w.heap.size w W) ∧ AlS W (w6.heap.size + 1) false false false b1 b2 b3) → wpAnyH Tryz.prog .any O Qq S9 9 #[true, true, false, true, true, false, true, true, false, false, false, false, false, false, false] aa W := by
        intro b1 b2 b3 W hz0
        have z := Lib.hid hz0
        clear hz0
        subst eO eQ eS ea
        try simp only [Act.put, List.getElem_toArray, List.getElem_cons_zero, List.getElem_cons_succ, List.setIfInBounds_toArray, List.set_cons_zero, List.set_cons_succ]
        refine wpAnyH_ready (rs := [2, 9, 10, 11]) (by kernel_rfl) (by simp) ?_
        refine AllReadyH.cons rfl (fun K hK => ?_) ?_
        · try simp only [List.getElem_toArray, List.getElem_cons_zero, List.getElem_cons_succ]
          rw [if_pos (by rfl)]
          go_wp2_with (go_at_call 26; refine (HS1.out _ z.out.1.2.2.2.1).mono ?_; rintro e W2 ⟨rfl, hY⟩)
          refine hK.out _ _ (⟨(RP.out _ _ z.out.1 hY).1, (RP.out _ _ z.out.1 hY).2.1, (RP.out _ _ z.out.1 hY).2.2.1⟩) (fun _ => ?_)
          clear hK K
          exact cast_any (N1_000 b1 b2 b3 W2 ⟨RP.out _ _ z.out.1 hY, z.out.2.keep hY⟩) (by kernel_rfl) (by kernel_rfl)
        refine AllReadyH.cons rfl (fun K hK => ?_) ?_
        · try simp only [List.getElem_toArray, List.getElem_cons_zero, List.getElem_cons_succ]
          rw [if_pos (by rfl)]
          go_wp2_with fail
          refine hK.out _ _ (⟨(RA.out _ z.out.1).1, (RA.out _ z.out.1).2.1, (RA.out _ z.out.1).2.2.1⟩) (fun _ => ?_)
          clear hK K
          exact cast_any (N0_100 W.heap.size b2 b3 _ ⟨RA.out _ z.out.1, z.out.2.a1 z.out.1.2.2.1.lt⟩) (by kernel_rfl) (by kernel_rfl)
        refine AllReadyH.cons rfl (fun K hK => ?_) ?_
        · try simp only [List.getElem_toArray, List.getElem_cons_zero, List.getElem_cons_succ]
          rw [if_pos (by rfl)]
          go_wp2_with fail
          refine hK.out _ _ (⟨(RA.out _ z.out.1).1, (RA.out _ z.out.1).2.1, (RA.out _ z.out.1).2.2.1⟩) (fun _ => ?_)
          clear hK K
          exact cast_any (N0_010 b1 W.heap.size b3 _ ⟨RA.out _ z.out.1, z.out.2.a2 z.out.1.2.2.1.lt⟩) (by kernel_rfl) (by kernel_rfl)
        refine AllReadyH.cons rfl (fun K hK => ?_) ?_
        · try simp only [List.getElem_toArray, List.getElem_cons_zero, List.getElem_cons_succ]
          rw [if_pos (by rfl)]
          go_wp2_with fail
          refine hK.out _ _ (⟨(RA.out _ z.out.1).1, (RA.out _ z.out.1).2.1, (RA.out _ z.out.1).2.2.1⟩) (fun _ => ?_)
          clear hK K
          exact cast_any (N0_001 b1 b2 W.heap.size _ ⟨RA.out _ z.out.1, z.out.2.a3 z.out.1.2.2.1.lt⟩) (by kernel_rfl) (by kernel_rfl)
        exact AllReadyH.nil
      exact cast_any (N0_000 0 0 0 _ ⟨R9d.out, by simp [AlS]⟩) (by kernel_rfl) (by kernel_rfl)
    · rw [show s / 6277101735386680763835789423207666416102355444464034512896 = 1 by omega, show decide (1 = 1) = true from rfl]
      clear hs hx hy hc K4 K6 HV HT HV6 hB6
      go_wp2_with (refine wpList_store_row rfl _ _ _ rfl _ _ rfl rfl _ _ (H9.out) size_three rfl (three_one _) ?_)
      go_ret
      exact ⟨rfl, R8.out.2.2.2.2⟩
  · have HB4 := Lib.hid K4.out.2.2.2.2
    clear K4 KP her hno
    go_wp2_with (refine wpList_store_row rfl _ _ _ rfl _ #[.int .u64 (p : Int), .int .u64 (q : Int), .int .u64 (r : Int)] rfl rfl _ _ (H6.out) size_w3 rfl (one3 _ _ _) ?_)
    go_ret
    exact ⟨rfl, HB4.out⟩
end Go.Proofs.YtjjfiidgjiekpaaGreat
