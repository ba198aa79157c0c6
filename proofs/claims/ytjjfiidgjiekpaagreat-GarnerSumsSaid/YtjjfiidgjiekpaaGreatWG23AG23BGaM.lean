/- The laws on trios: fields or none; trio. -/
import Derived.Test.YtjjfiidgjiekpaaGreatGarD
import Derived.Test.YtjjfiidgjiekpaaGreatAl5
import Derived.Test.YtjjfiidgjiekpaaGreatWMadeBToMs23
set_option linter.unusedVariables false
set_option linter.unusedSimpArgs false
set_option linter.unusedSectionVars false
section
/- The laws on trios: fields or none; trio. -/
namespace Go.Proofs.YtjjfiidgjiekpaaGreat
open Go.RowKit
open Alg (Prime)
theorem FV.keep {w w' : World} {v : Value} {p : Nat} (h : FV w v p) (hb : Below w.heap.size w w') : FV w' v p := by
  rcases h with h | ⟨h3, b, g, e, hF⟩
  · exact .inl h
  · exact .inr ⟨h3, b, g, e, (hF.below hb).mono hb.size⟩
/-- A field of a prime, or none. -/
def FP (w : World) (v : Value) (p : Nat) : Prop := FV w v p ∧ p < 9223372036854775808 ∧ (p ≠ 0 → Prime p)
theorem FP.keep {w w' : World} {v : Value} {p : Nat} (h : FP w v p) (hb : Below w.heap.size w w') : FP w' v p := ⟨h.1.keep hb, h.2⟩
theorem FP.of {w : World} {v : Value} {p g : Int} (h : MadeR v p g w) : ∃ q : Nat, p = (q : Int) ∧ FP w v q := by
  rcases h with ⟨rfl, _, rfl⟩ | ⟨h3, hC, hF⟩
  · exact ⟨0, rfl, .inl ⟨rfl, rfl⟩, by omega, fun h => absurd rfl h⟩
  · obtain ⟨q, rfl⟩ := Int.eq_ofNat_of_zero_le (show 0 ≤ p by omega)
    have hm := hF.pmx
    obtain ⟨b, c, t, o, s, sv, rfl, hb, hc, hA⟩ := hF
    exact ⟨q, rfl, .inr ⟨by omega, b, g, rfl, ⟨b, c, t, o, s, sv, rfl, hb, hc, hA⟩⟩, by omega, fun _ => hC.nat.1⟩
theorem FP.small {w w' : World} {r : Ending} {p : Nat} (ho : OddP (p : Int)) (h : SmallP (p : Int) w r w') : ∃ v, r = .returned (.tuple #[v, .int .i64 0]) ∧ FP w' v p ∧ Below w.heap.size w w' := by
  rcases h with ⟨_, g, hg, hM⟩ | ⟨hn, _⟩
  · obtain ⟨hB, ⟨er, h0, _⟩ | ⟨v, h3, hC, hr, hF⟩⟩ := hM
    · exact absurd h0 (by have := ho.1; omega)
    · refine ⟨v, hr, ?_, hB⟩
      obtain ⟨q, hq, hf⟩ := FP.of (.inr ⟨h3, hC, hF⟩ : MadeR v (p : Int) (g : Int) w')
      have : q = p := by omega
      exact this ▸ hf
  · exact absurd ho hn
/-- What a law's trio answers. -/
def TR (w' : World) (v : Value) (p q r : Nat) (e : Int) (ok : Bool) : Prop :=
  p < 9223372036854775808 ∧ q < 9223372036854775808 ∧ r < 9223372036854775808 ∧ ((ok = true ∧ e = 0 ∧ Tri p q r ∧ TrioP w' w'.heap.size v p q r) ∨ (ok = false ∧ v = .pointer none ∧ e = (if p = 0 ∨ q = 0 ∨ r = 0 then 2 else 1) ∧ ¬ (p ≠ 0 ∧ q ≠ 0 ∧ r ≠ 0 ∧ p ≠ q ∧ p ≠ r ∧ q ≠ r)))
theorem TR.keep {w w' : World} {v : Value} {p q r : Nat} {e : Int} {ok : Bool} (h : TR w v p q r e ok) (hb : Below w.heap.size w w') : TR w' v p q r e ok := by
  obtain ⟨a, b, c, ⟨h1, h2, h3, h4⟩ | h⟩ := h
  · exact ⟨a, b, c, .inl ⟨h1, h2, h3, (h4.below hb).mono hb.size⟩⟩
  · exact ⟨a, b, c, .inr h⟩
theorem Fd.setRow {w : World} {B : Nat} {v : Value} {p g : Int} (h : Fd w B v p g) {N m : Nat} {t : TypeId} (hN : RowAt w N t (three m)) (cs : Array Value) : Fd (w.setRow N cs) B v p g := by
  obtain ⟨b, c, tt, o, s, sv, rfl, hb, hc, hF⟩ := h
  have hbN : b ≠ N := by
    rintro rfl
    have h1 := hF.f0
    rw [hN.cell (three_get m 0 (by omega))] at h1
    cases h1
  have hcN : c ≠ N := by
    rintro rfl
    have h1 := hF.ctx.c3
    rw [cell_of_row w c 3 (three m) t (0, 0) hN] at h1
    cases h1
  have hk : ∀ (x j : Nat) (u : Value), x ≠ N → w.cell? ⟨x, j, none⟩ = some u → (w.setRow N cs).cell? ⟨x, j, none⟩ = some u := fun x j u hx hh => by
    rw [cell_setRow_other w N cs ⟨x, j, none⟩ hx]; exact hh
  have hC := hF.ctx
  exact ⟨b, c, tt, o, s, sv, rfl, hb, hc, ⟨⟨hk c 0 _ hcN hC.c0, hk c 1 _ hcN hC.c1, hk c 2 _ hcN hC.c2, hk c 3 _ hcN hC.c3, hC.m1, hC.m2, hC.mo, hC.t0, hC.t1, hC.tm, hC.eo, hC.es⟩, hk b 0 _ hbN hF.f0, hk b 1 _ hbN hF.f1, hk b 2 _ hbN hF.f2, hk b 3 _ hbN hF.f3⟩⟩
theorem TrioP.setRow {w : World} {B : Nat} {v : Value} {p q r : Nat} (h : TrioP w B v p q r) {N m : Nat} {t : TypeId} (hN : RowAt w N t (three m)) (cs : Array Value) : TrioP (w.setRow N cs) B v p q r := by
  obtain ⟨G, va, vb, vc, s, u, g1, g2, g3, rfl, hG, ha, hbb, hc, hr, h1⟩ := h
  have hGN : G ≠ N := by
    rintro rfl
    have h1 := hr.cell (i := 3) (v := .int .u64 (s : Int)) rfl
    rw [cell_of_row w G 3 (three m) t (0, 0) hN] at h1
    cases h1
  exact ⟨G, va, vb, vc, s, u, g1, g2, g3, rfl, hG, ha.setRow hN cs, hbb.setRow hN cs, hc.setRow hN cs, hr.setRowOther _ _ hGN, h1⟩
theorem size_setRow (w : World) (N : Nat) (cs : Array Value) : (w.setRow N cs).heap.size = w.heap.size := by simp [World.setRow]
theorem TR.setRow {w : World} {v : Value} {p q r : Nat} {e : Int} {ok : Bool} (h : TR w v p q r e ok) {N m : Nat} {t : TypeId} (hN : RowAt w N t (three m)) (cs : Array Value) : TR (w.setRow N cs) v p q r e ok := by
  obtain ⟨a, b, c, ⟨h1, h2, h3, h4⟩ | h⟩ := h
  · exact ⟨a, b, c, .inl ⟨h1, h2, h3, by rw [size_setRow]; exact h4.setRow hN cs⟩⟩
  · exact ⟨a, b, c, .inr h⟩
theorem new_tr {w : World} {va vb vc : Value} {p q r : Nat} (ha : FP w va p) (hb : FP w vb q) (hc : FP w vc r) :
    Calls Tryz.prog 53 #[va, vb, vc] w fun e w' => ∃ v er, e = .returned (.tuple #[v, .int .i64 er]) ∧ TR w' v p q r er (decide (p ≠ 0 ∧ q ≠ 0 ∧ r ≠ 0 ∧ p ≠ q ∧ p ≠ r ∧ q ≠ r)) ∧ Below w.heap.size w w' := by
  have hp3 : p = 0 ∨ 3 ≤ p := by rcases ha.1 with ⟨h, _⟩ | ⟨h, _⟩ <;> omega
  have hq3 : q = 0 ∨ 3 ≤ q := by rcases hb.1 with ⟨h, _⟩ | ⟨h, _⟩ <;> omega
  have hr3 : r = 0 ∨ 3 ≤ r := by rcases hc.1 with ⟨h, _⟩ | ⟨h, _⟩ <;> omega
  by_cases hz : p = 0 ∨ q = 0 ∨ r = 0
  · refine (tnew_nil ha.1 hb.1 hc.1 hz).mono ?_
    rintro e w' ⟨rfl, rfl⟩
    exact ⟨_, _, rfl, ⟨ha.2.1, hb.2.1, hc.2.1, .inr ⟨decide_eq_false (by omega), rfl, by rw [if_pos hz], by omega⟩⟩, Below.refl _ _⟩
  · by_cases he : p = q ∨ p = r ∨ q = r
    · refine (tnew_same ha.1 hb.1 hc.1 (by omega) he).mono ?_
      rintro e w' ⟨rfl, rfl⟩
      exact ⟨_, _, rfl, ⟨ha.2.1, hb.2.1, hc.2.1, .inr ⟨decide_eq_false (by omega), rfl, by rw [if_neg hz], by omega⟩⟩, Below.refl _ _⟩
    · have hT : Tri p q r := ⟨ha.2.2 (by omega), hb.2.2 (by omega), hc.2.2 (by omega), by omega, by omega, by omega, by omega, by omega, by omega, ha.2.1, hb.2.1, hc.2.1⟩
      refine (tnew_yes ha.1 hb.1 hc.1 hT).mono ?_
      rintro e w' ⟨v, rfl, hv, hB⟩
      exact ⟨_, _, rfl, ⟨ha.2.1, hb.2.1, hc.2.1, .inl ⟨decide_eq_true (by omega), rfl, hT, hv⟩⟩, hB⟩
section
variable {P : Program}
theorem results_trio {fn : Func} {p t1 t2 t3 : Tmp} {ty : TypeId} (h : fn.results = #[.tmp t1, .cell p ty, .tmp t2, .tmp t3]) (tmps : Array Value) (w : World) (g : Nat) (t : TypeId) (cs : Array Value) (d : TypeDesc)
    (hp : tmps.getD p undef = .pointer (some ⟨g, 0, none⟩)) (hg : RowAt w g t cs)
    (hu : P.underlying ty = some d) (hd : (match d with | .struct _ | .array _ _ => true | _ => false) = true) (hi : (P.info? ty).map (·.size) = some cs.size) :
    (results fn tmps).run P w = .ok (.tuple #[tmps.getD t1 undef, .agg cs, tmps.getD t2 undef, tmps.getD t3 undef]) w := by
  have hp' : tmps[p]?.getD undef = .pointer (some ⟨g, 0, none⟩) := by simpa using hp
  simp [results, h, hp', asAddr, run_loadVar_row w g t ty cs (0, 0) d hg hu hd hi]
theorem results_trio3 {fn : Func} {p t1 t2 : Tmp} {ty : TypeId} (h : fn.results = #[.tmp t1, .cell p ty, .tmp t2]) (tmps : Array Value) (w : World) (g : Nat) (t : TypeId) (cs : Array Value) (d : TypeDesc)
    (hp : tmps.getD p undef = .pointer (some ⟨g, 0, none⟩)) (hg : RowAt w g t cs)
    (hu : P.underlying ty = some d) (hd : (match d with | .struct _ | .array _ _ => true | _ => false) = true) (hi : (P.info? ty).map (·.size) = some cs.size) :
    (results fn tmps).run P w = .ok (.tuple #[tmps.getD t1 undef, .agg cs, tmps.getD t2 undef]) w := by
  have hp' : tmps[p]?.getD undef = .pointer (some ⟨g, 0, none⟩) := by simpa using hp
  simp [results, h, hp', asAddr, run_loadVar_row w g t ty cs (0, 0) d hg hu hd hi]
end
set_option maxHeartbeats 4000000 in
set_option maxRecDepth 100000 in
theorem trio_any (w : World) (Aa : Option Addr) (ca : Nat) (kinda kka ppa : Int) (esa : List Ent) (Ab : Option Addr) (cb : Nat) (kindb kkb ppb : Int) (esb : List Ent) (Ac : Option Addr) (cc : Nat) (kindc kkc ppc : Int) (esc : List Ent) (hsa : SrcA w Aa ca kinda kka ppa esa) (hsb : SrcA w Ab cb kindb kkb ppb esb) (hsc : SrcA w Ac cc kindc kkc ppc esc) :
    Calls Tryz.prog 14 #[.agg #[.int .i64 kinda, .int .i64 kka, .int .u64 ppa, .slice Aa esa.length ca, .int .i64 kindb, .int .i64 kkb, .int .u64 ppb, .slice Ab esb.length cb, .int .i64 kindc, .int .i64 kkc, .int .u64 ppc, .slice Ac esc.length cc]] w fun x w' => ∃ (v : Value) (p q r : Nat) (e : Int) (ok : Bool), x = .returned (.tuple #[v, .agg #[.int .u64 (p : Int), .int .u64 (q : Int), .int .u64 (r : Int)], .int .i64 e, .bool ok]) ∧ TR w' v p q r e ok ∧ Below w.heap.size w w' := by
  have hz := (zero_of_info info_w3).1
  obtain ⟨R0, R1, hB⟩ := lay2 w 27 28 #[.int .i64 kinda, .int .i64 kka, .int .u64 ppa, .slice Aa esa.length ca, .int .i64 kindb, .int .i64 kkb, .int .u64 ppb, .slice Ab esb.length cb, .int .i64 kindc, .int .i64 kkc, .int .u64 ppc, .slice Ac esc.length cc] (three 0)
  have HR0 := Lib.hid R0
  have HR1 := Lib.hid R1
  have HB := Lib.hid hB
  have HSa := Lib.hid hsa
  have HSb := Lib.hid hsb
  have HSc := Lib.hid hsc
  have d0 := R0.cell (i := 0) (v := .int .i64 kinda) rfl
  have d1 := R0.cell (i := 1) (v := .int .i64 kka) rfl
  have d2 := R0.cell (i := 2) (v := .int .u64 ppa) rfl
  have d3 := R0.cell (i := 3) (v := .slice Aa esa.length ca) rfl
  have d4 := R0.cell (i := 4) (v := .int .i64 kindb) rfl
  have d5 := R0.cell (i := 5) (v := .int .i64 kkb) rfl
  have d6 := R0.cell (i := 6) (v := .int .u64 ppb) rfl
  have d7 := R0.cell (i := 7) (v := .slice Ab esb.length cb) rfl
  have d8 := R0.cell (i := 8) (v := .int .i64 kindc) rfl
  have d9 := R0.cell (i := 9) (v := .int .i64 kkc) rfl
  have d10 := R0.cell (i := 10) (v := .int .u64 ppc) rfl
  have d11 := R0.cell (i := 11) (v := .slice Ac esc.length cc) rfl
  clear hsa hsb hsc R0 R1 hB
  go_enter Tryz.func14, Tryz.ntmps14
  go_wp2_with fail
  generalize ((w.alloc (.cells #[.int .i64 kinda, .int .i64 kka, .int .u64 ppa, .slice Aa esa.length ca, .int .i64 kindb, .int .i64 kkb, .int .u64 ppb, .slice Ab esb.length cb, .int .i64 kindc, .int .i64 kkc, .int .u64 ppc, .slice Ac esc.length cc] 27)).alloc (.cells (three 0) 28)) = w1 at *
  refine (made_src (HSa.out.below HB.out)).mono ?_
  rintro x w2 ⟨va, p', g', rfl, hM, hBm⟩
  obtain ⟨pa, rfl, hfa⟩ := FP.of hM
  have HFa := Lib.hid hfa
  have HB1 := Lib.hid (HB.out.trans (hBm.mono HB.out.size))
  have HR2 := Lib.hid (HR0.out.keep hBm)
  have HR3 := Lib.hid (HR1.out.keep hBm)
  clear hM hBm hfa d0 d1 d2 d3 d4 d5 d6 d7 d8 d9 d10 d11
  have d0 := HR2.out.cell (i := 0) (v := .int .i64 kinda) rfl
  have d1 := HR2.out.cell (i := 1) (v := .int .i64 kka) rfl
  have d2 := HR2.out.cell (i := 2) (v := .int .u64 ppa) rfl
  have d3 := HR2.out.cell (i := 3) (v := .slice Aa esa.length ca) rfl
  have d4 := HR2.out.cell (i := 4) (v := .int .i64 kindb) rfl
  have d5 := HR2.out.cell (i := 5) (v := .int .i64 kkb) rfl
  have d6 := HR2.out.cell (i := 6) (v := .int .u64 ppb) rfl
  have d7 := HR2.out.cell (i := 7) (v := .slice Ab esb.length cb) rfl
  have d8 := HR2.out.cell (i := 8) (v := .int .i64 kindc) rfl
  have d9 := HR2.out.cell (i := 9) (v := .int .i64 kkc) rfl
  have d10 := HR2.out.cell (i := 10) (v := .int .u64 ppc) rfl
  have d11 := HR2.out.cell (i := 11) (v := .slice Ac esc.length cc) rfl
  go_wp2_with fail
  refine (made_src (HSb.out.below HB1.out)).mono ?_
  rintro x w3 ⟨vb, p', g', rfl, hM, hBm⟩
  obtain ⟨pb, rfl, hfb⟩ := FP.of hM
  have HFb := Lib.hid hfb
  have HB2 := Lib.hid (HB1.out.trans (hBm.mono HB1.out.size))
  have HR4 := Lib.hid (HR2.out.keep hBm)
  have HR5 := Lib.hid (HR3.out.keep hBm)
  have HFa := Lib.hid (HFa.out.keep hBm)
  clear hM hBm hfb d0 d1 d2 d3 d4 d5 d6 d7 d8 d9 d10 d11
  have d0 := HR4.out.cell (i := 0) (v := .int .i64 kinda) rfl
  have d1 := HR4.out.cell (i := 1) (v := .int .i64 kka) rfl
  have d2 := HR4.out.cell (i := 2) (v := .int .u64 ppa) rfl
  have d3 := HR4.out.cell (i := 3) (v := .slice Aa esa.length ca) rfl
  have d4 := HR4.out.cell (i := 4) (v := .int .i64 kindb) rfl
  have d5 := HR4.out.cell (i := 5) (v := .int .i64 kkb) rfl
  have d6 := HR4.out.cell (i := 6) (v := .int .u64 ppb) rfl
  have d7 := HR4.out.cell (i := 7) (v := .slice Ab esb.length cb) rfl
  have d8 := HR4.out.cell (i := 8) (v := .int .i64 kindc) rfl
  have d9 := HR4.out.cell (i := 9) (v := .int .i64 kkc) rfl
  have d10 := HR4.out.cell (i := 10) (v := .int .u64 ppc) rfl
  have d11 := HR4.out.cell (i := 11) (v := .slice Ac esc.length cc) rfl
  go_wp2_with fail
  refine (made_src (HSc.out.below HB2.out)).mono ?_
  rintro x w4 ⟨vc, p', g', rfl, hM, hBm⟩
  obtain ⟨pc, rfl, hfc⟩ := FP.of hM
  have HFc := Lib.hid hfc
  have HB3 := Lib.hid (HB2.out.trans (hBm.mono HB2.out.size))
  have HR6 := Lib.hid (HR4.out.keep hBm)
  have HR7 := Lib.hid (HR5.out.keep hBm)
  have HFa := Lib.hid (HFa.out.keep hBm)
  have HFb := Lib.hid (HFb.out.keep hBm)
  clear hM hBm hfc d0 d1 d2 d3 d4 d5 d6 d7 d8 d9 d10 d11
  have d0 := HR6.out.cell (i := 0) (v := .int .i64 kinda) rfl
  have d1 := HR6.out.cell (i := 1) (v := .int .i64 kka) rfl
  have d2 := HR6.out.cell (i := 2) (v := .int .u64 ppa) rfl
  have d3 := HR6.out.cell (i := 3) (v := .slice Aa esa.length ca) rfl
  have d4 := HR6.out.cell (i := 4) (v := .int .i64 kindb) rfl
  have d5 := HR6.out.cell (i := 5) (v := .int .i64 kkb) rfl
  have d6 := HR6.out.cell (i := 6) (v := .int .u64 ppb) rfl
  have d7 := HR6.out.cell (i := 7) (v := .slice Ab esb.length cb) rfl
  have d8 := HR6.out.cell (i := 8) (v := .int .i64 kindc) rfl
  have d9 := HR6.out.cell (i := 9) (v := .int .i64 kkc) rfl
  have d10 := HR6.out.cell (i := 10) (v := .int .u64 ppc) rfl
  have d11 := HR6.out.cell (i := 11) (v := .slice Ac esc.length cc) rfl
  go_wp2_with fail
  clear d0 d1 d2 d3 d4 d5 d6 d7 d8 d9 d10 d11
  refine (new_tr HFa.out HFb.out HFc.out).mono ?_
  rintro x w5 ⟨v, er, rfl, hTR, hBm⟩
  have HR9 := Lib.hid (HR7.out.keep hBm)
  have HB4 := Lib.hid (HB3.out.trans (hBm.mono HB3.out.size))
  have b1 : pa < 9223372036854775808 := hTR.1
  have b2 : pb < 9223372036854775808 := hTR.2.1
  have b3 : pc < 9223372036854775808 := hTR.2.2.1
  have HE : Hid (∀ ok : Bool, ok = decide (pa ≠ 0 ∧ pb ≠ 0 ∧ pc ≠ 0 ∧ pa ≠ pb ∧ pa ≠ pc ∧ pb ≠ pc) → TR (w5.setRow (w.heap.size + 1) #[.int .u64 (pa : Int), .int .u64 (pb : Int), .int .u64 (pc : Int)]) v pa pb pc er ok) := Lib.hid (fun ok he => by
    subst he
    exact hTR.setRow HR9.out _)
  have HZ : Hid (RowAt (w5.setRow (w.heap.size + 1) #[.int .u64 (pa : Int), .int .u64 (pb : Int), .int .u64 (pc : Int)]) (w.heap.size + 1) 28 #[.int .u64 (pa : Int), .int .u64 (pb : Int), .int .u64 (pc : Int)] ∧ Below w.heap.size w (w5.setRow (w.heap.size + 1) #[.int .u64 (pa : Int), .int .u64 (pb : Int), .int .u64 (pc : Int)])) := Lib.hid ⟨HR9.out.setRow _, below_setRow HB4.out (by omega) _⟩
  clear hTR hBm
  by_cases za : pa = 0
  · have ta : 2 * (pa : Int) ≤ 1 := by omega
    have HH := Lib.hid za
    clear za
    go_wp2_with (refine wpList_store_row rfl _ _ _ rfl _ #[.int .u64 (pa : Int), .int .u64 (pb : Int), .int .u64 (pc : Int)] rfl rfl _ _ (HR9.out) size_w3 rfl (one3 _ _ _) ?_)
    refine bodyPost_ret (results_trio rfl _ _ _ _ _ _ rfl HZ.out.1 Tryz.underlying28 rfl size_w3) (by rfl) ?_
    exact ⟨v, pa, pb, pc, er, false, rfl, HE.out false (by have := HH.out; simp <;> omega), HZ.out.2⟩
  · have ta : decide ((pa : Int) > 0) = true := decide_eq_true (by omega)
    by_cases zb : pb = 0
    · have tb : 2 * (pb : Int) ≤ 1 := by omega
      have HH := Lib.hid zb
      clear zb
      go_wp2_with (refine wpList_store_row rfl _ _ _ rfl _ #[.int .u64 (pa : Int), .int .u64 (pb : Int), .int .u64 (pc : Int)] rfl rfl _ _ (HR9.out) size_w3 rfl (one3 _ _ _) ?_)
      refine bodyPost_ret (results_trio rfl _ _ _ _ _ _ rfl HZ.out.1 Tryz.underlying28 rfl size_w3) (by rfl) ?_
      exact ⟨v, pa, pb, pc, er, false, rfl, HE.out false (by have := HH.out; simp <;> omega), HZ.out.2⟩
    · have tb : decide ((pb : Int) > 0) = true := decide_eq_true (by omega)
      by_cases zc : pc = 0
      · have tc : 2 * (pc : Int) ≤ 1 := by omega
        have HH := Lib.hid zc
        clear zc
        go_wp2_with (refine wpList_store_row rfl _ _ _ rfl _ #[.int .u64 (pa : Int), .int .u64 (pb : Int), .int .u64 (pc : Int)] rfl rfl _ _ (HR9.out) size_w3 rfl (one3 _ _ _) ?_)
        refine bodyPost_ret (results_trio rfl _ _ _ _ _ _ rfl HZ.out.1 Tryz.underlying28 rfl size_w3) (by rfl) ?_
        exact ⟨v, pa, pb, pc, er, false, rfl, HE.out false (by have := HH.out; simp <;> omega), HZ.out.2⟩
      · have tc : decide ((pc : Int) > 0) = true := decide_eq_true (by omega)
        by_cases hab : pa = pb
        · have eab : ((pa : Int) != (pb : Int)) = false := by simp [hab]
          have HH := Lib.hid hab
          clear hab
          go_wp2_with (refine wpList_store_row rfl _ _ _ rfl _ #[.int .u64 (pa : Int), .int .u64 (pb : Int), .int .u64 (pc : Int)] rfl rfl _ _ (HR9.out) size_w3 rfl (one3 _ _ _) ?_)
          refine bodyPost_ret (results_trio rfl _ _ _ _ _ _ rfl HZ.out.1 Tryz.underlying28 rfl size_w3) (by rfl) ?_
          exact ⟨v, pa, pb, pc, er, false, rfl, HE.out false (by have := HH.out; simp <;> omega), HZ.out.2⟩
        · have eab : ((pa : Int) != (pb : Int)) = true := by simp; omega
          by_cases hac : pa = pc
          · have eac : ((pa : Int) != (pc : Int)) = false := by simp [hac]
            have HH := Lib.hid hac
            clear hac
            go_wp2_with (refine wpList_store_row rfl _ _ _ rfl _ #[.int .u64 (pa : Int), .int .u64 (pb : Int), .int .u64 (pc : Int)] rfl rfl _ _ (HR9.out) size_w3 rfl (one3 _ _ _) ?_)
            refine bodyPost_ret (results_trio rfl _ _ _ _ _ _ rfl HZ.out.1 Tryz.underlying28 rfl size_w3) (by rfl) ?_
            exact ⟨v, pa, pb, pc, er, false, rfl, HE.out false (by have := HH.out; simp <;> omega), HZ.out.2⟩
          · have eac : ((pa : Int) != (pc : Int)) = true := by simp; omega
            by_cases hbc : pb = pc
            · have ebc : ((pb : Int) != (pc : Int)) = false := by simp [hbc]
              have HH := Lib.hid hbc
              clear hbc
              go_wp2_with (refine wpList_store_row rfl _ _ _ rfl _ #[.int .u64 (pa : Int), .int .u64 (pb : Int), .int .u64 (pc : Int)] rfl rfl _ _ (HR9.out) size_w3 rfl (one3 _ _ _) ?_)
              refine bodyPost_ret (results_trio rfl _ _ _ _ _ _ rfl HZ.out.1 Tryz.underlying28 rfl size_w3) (by rfl) ?_
              exact ⟨v, pa, pb, pc, er, false, rfl, HE.out false (by have := HH.out; simp <;> omega), HZ.out.2⟩
            · have ebc : ((pb : Int) != (pc : Int)) = true := by simp; omega
              go_wp2_with (refine wpList_store_row rfl _ _ _ rfl _ #[.int .u64 (pa : Int), .int .u64 (pb : Int), .int .u64 (pc : Int)] rfl rfl _ _ (HR9.out) size_w3 rfl (one3 _ _ _) ?_)
              refine bodyPost_ret (results_trio rfl _ _ _ _ _ _ rfl HZ.out.1 Tryz.underlying28 rfl size_w3) (by rfl) ?_
              exact ⟨v, pa, pb, pc, er, true, rfl, HE.out true (by simp <;> omega), HZ.out.2⟩
end Go.Proofs.YtjjfiidgjiekpaaGreat
end

section
/- The laws on trios: bits, product, alive. -/
namespace Go.Proofs.YtjjfiidgjiekpaaGreat
open Go.RowKit
open Alg (Prime)
@[go_sem] theorem eq_three (a b c d e f : Int) (w : World) : (Op.equalIn 10000 29 (.agg #[.int .u64 a, .int .u64 b, .int .u64 c]) (.agg #[.int .u64 d, .int .u64 e, .int .u64 f])).run Tryz.prog w = .ok (a == d && b == e && c == f) w := by
  have u3 := Tryz.underlying22
  have a3 := Tryz.isAgg22
  have z3 := Tryz.sizeOf22
  rw [show (10000 : Nat) = 9999 + 1 from rfl, Op.equalIn]
  simp only [Sem.run_bind, run_underlying Tryz.underlying29, Result.andThen_ok]
  simp only [Std.Legacy.Range.forIn_eq_forIn_range', Std.Legacy.Range.size, Nat.sub_zero, Nat.add_sub_cancel, Nat.div_one, List.range'_succ, List.range'_zero, List.forIn_cons, List.forIn_nil]
  go_simp
  by_cases h1 : a = d <;> by_cases h2 : b = e <;> by_cases h3 : c = f <;> simp [h1, h2, h3]
@[go_sem] theorem eq_words (a b c d e f : Int) (w : World) : (Op.equalIn 10000 28 (.agg #[.int .u64 a, .int .u64 b, .int .u64 c]) (.agg #[.int .u64 d, .int .u64 e, .int .u64 f])).run Tryz.prog w = .ok (a == d && b == e && c == f) w := by
  have u3 := Tryz.underlying22
  have a3 := Tryz.isAgg22
  have z3 := Tryz.sizeOf22
  rw [show (10000 : Nat) = 9999 + 1 from rfl, Op.equalIn]
  simp only [Sem.run_bind, run_underlying Tryz.underlying28, Result.andThen_ok]
  simp only [Std.Legacy.Range.forIn_eq_forIn_range', Std.Legacy.Range.size, Nat.sub_zero, Nat.add_sub_cancel, Nat.div_one, List.range'_succ, List.range'_zero, List.forIn_cons, List.forIn_nil]
  go_simp
  by_cases h1 : a = d <;> by_cases h2 : b = e <;> by_cases h3 : c = f <;> simp [h1, h2, h3]
set_option maxHeartbeats 1000000 in
set_option maxRecDepth 100000 in
theorem bits23_any (x : Nat) (hx : x < 6277101735386680763835789423207666416102355444464034512896) (w : World) :
    Calls Tryz.prog 17 #[.agg (three x)] w fun e w' => e = .returned (.agg (bcells x)) ∧ Below w.heap.size w w' := by
  have hz := (zero_of_info info_bits).1
  have R0 := Lib.hid (Rows2.new w 29 (three x) 38 (bcells 0))
  have HBt : Hid (∀ W, Calls Tryz.prog 60 #[.agg (three x)] W fun e w' => e = .returned (.agg (bcells x)) ∧ Below W.heap.size W w') := Lib.hid (fun W => r1bit_any x hx W)
  go_enter Tryz.func17, Tryz.ntmps17
  go_wp2_with (refine wpList_load_row rfl _ _ rfl _ rfl _ _ _ _ (R0.out.1) Tryz.underlying29 rfl size_three ?_)
  refine (HBt.out _).mono ?_
  rintro e w7 ⟨rfl, hB7⟩
  have z7 := Lib.hid (And.intro (R0.out.2.1.keep hB7) (R0.out.2.2.trans (hB7.mono R0.out.2.2.size)))
  clear hB7 R0
  go_wp2_with (refine wpList_store_row rfl _ _ _ rfl _ _ rfl rfl _ _ (z7.out.1) size_bits rfl (bcells_one _) ?_)
  refine bodyPost_ret (results_cell_row rfl _ _ _ _ _ _ _ rfl (z7.out.1.setRow _) Tryz.underlying38 rfl size_bits) (by rfl) ?_
  exact ⟨rfl, below_setRow z7.out.2 (by omega) _⟩
set_option maxHeartbeats 1000000 in
set_option maxRecDepth 100000 in
theorem product23_any (p q r : Nat) (hp : p < 18446744073709551616) (hq : q < 18446744073709551616) (hr : r < 18446744073709551616) (w : World) :
    Calls Tryz.prog 18 #[.agg #[.int .u64 (p : Int), .int .u64 (q : Int), .int .u64 (r : Int)]] w fun e w' => e = .returned (.agg (bcells (p * q * r))) ∧ Below w.heap.size w w' := by
  have hz := (zero_of_info info_bits).1
  have R0 := Rows2.new w 28 #[.int .u64 (p : Int), .int .u64 (q : Int), .int .u64 (r : Int)] 38 (bcells 0)
  have c0 := R0.1.cell (i := 0) (v := .int .u64 (p : Int)) rfl
  have c1 := R0.1.cell (i := 1) (v := .int .u64 (q : Int)) rfl
  have c2 := R0.1.cell (i := 2) (v := .int .u64 (r : Int)) rfl
  have R0 := Lib.hid R0
  have HPr : Hid (∀ W, Calls Tryz.prog 61 #[.int .u64 (p : Int), .int .u64 (q : Int), .int .u64 (r : Int)] W fun e w' => e = .returned (.agg (bcells (p * q * r))) ∧ Below W.heap.size W w') := Lib.hid (fun W => r23prod_any p q r hp hq hr W)
  obtain ⟨n, hn⟩ : ∃ n, n = p * q * r := ⟨_, rfl⟩
  rw [← hn] at HPr ⊢
  clear hn
  go_enter Tryz.func18, Tryz.ntmps18
  go_wp2_with fail
  refine (HPr.out _).mono ?_
  rintro e w7 ⟨rfl, hB7⟩
  have z7 := Lib.hid (And.intro (R0.out.2.1.keep hB7) (R0.out.2.2.trans (hB7.mono R0.out.2.2.size)))
  clear hB7 R0 c0 c1 c2
  go_wp2_with (refine wpList_store_row rfl _ _ _ rfl _ _ rfl rfl _ _ (z7.out.1) size_bits rfl (bcells_one _) ?_)
  refine bodyPost_ret (results_cell_row rfl _ _ _ _ _ _ _ rfl (z7.out.1.setRow _) Tryz.underlying38 rfl size_bits) (by rfl) ?_
  exact ⟨rfl, below_setRow z7.out.2 (by omega) _⟩
theorem three_m1 : three 6277101735386680763835789423207666416102355444464034512895 = #[.int .u64 18446744073709551615, .int .u64 18446744073709551615, .int .u64 18446744073709551615] := by simp [three]
theorem centre_104 : (if 104 ≤ 3 * 5 * 7 / 2 then 104 else dif 104 (3 * 5 * 7)) = 6277101735386680763835789423207666416102355444464034512895 := by simp [dif]
set_option maxHeartbeats 1000000 in
set_option maxRecDepth 100000 in
theorem lint_any (w : World) : Calls Tryz.prog 54 #[.agg #[.int .u64 18446744073709551615, .int .u64 18446744073709551615, .int .u64 18446744073709551615]] w fun e w' => e = .returned (.tuple #[.int .i64 (-1), .bool true]) ∧ Below w.heap.size w w' := by
  obtain ⟨r0, hB⟩ := lay1 w 29 #[.int .u64 18446744073709551615, .int .u64 18446744073709551615, .int .u64 18446744073709551615]
  have c0 := r0.cell (i := 0) (v := .int .u64 18446744073709551615) rfl
  have R0 : Hid (RowAt ((w.alloc (.cells #[.int .u64 18446744073709551615, .int .u64 18446744073709551615, .int .u64 18446744073709551615] 29)).drewN 1) w.heap.size 29 #[.int .u64 18446744073709551615, .int .u64 18446744073709551615, .int .u64 18446744073709551615] ∧ Below w.heap.size w ((w.alloc (.cells #[.int .u64 18446744073709551615, .int .u64 18446744073709551615, .int .u64 18446744073709551615] 29)).drewN 1)) := Lib.hid ⟨r0, below_drewN hB 1⟩
  have HOf : Hid (∀ W, Calls Tryz.prog 22 #[.int .i64 (-1)] W fun e w' => e = .returned (.agg #[.int .u64 18446744073709551615, .int .u64 18446744073709551615, .int .u64 18446744073709551615]) ∧ Below W.heap.size W w') := Lib.hid (fun W => by
    have h := lof_any (-1) (by omega) (by omega) W
    rw [show ((-1 : Int) % 6277101735386680763835789423207666416102355444464034512896).toNat = 6277101735386680763835789423207666416102355444464034512895 by omega, three_m1] at h
    exact h)
  have hw : wrap64 18446744073709551615 = -1 := by unfold wrap64; omega
  clear r0 hB
  go_enter Tryz.func54, Tryz.ntmps54
  go_wp2_with fail
  generalize w.alloc (.cells #[.int .u64 18446744073709551615, .int .u64 18446744073709551615, .int .u64 18446744073709551615] 29) = w1 at *
  change (Code.region _ _ true).wp _ _ _ _
  refine wp_region_held_drew (S := fun wz => RowAt wz w.heap.size 29 #[.int .u64 18446744073709551615, .int .u64 18446744073709551615, .int .u64 18446744073709551615]) (by kernel_rfl) (R0.out.1) (fun hHeld => ?_)
  refine wpAnyH_take (i := 0) (v := ?_) rfl (by kernel_rfl) (by kernel_rfl) (by kernel_rfl) (fun _ _ _ h => h) (Or.inl ⟨by rfl, ?_⟩) (by assumption) ?_
  rotate_left
  · intro w hSw; (try dsimp only at hSw); go_simp; try with_reducible rfl
  try simp only [Act.put, List.getElem_toArray, List.getElem_cons_zero, List.getElem_cons_succ, List.setIfInBounds_toArray, List.set_cons_zero, List.set_cons_succ]
  refine wpAnyH_take (i := 2) rfl (by kernel_rfl) (by kernel_rfl) (by kernel_rfl) (fun _ _ _ h => h) (yieldsIf_load_row (by rfl) _ _ rfl _ rfl _ _ _ (fun wz h => h) Tryz.underlying29 rfl size_three) (by assumption) ?_
  try simp only [Act.put, List.getElem_toArray, List.getElem_cons_zero, List.getElem_cons_succ, List.setIfInBounds_toArray, List.set_cons_zero, List.set_cons_succ]
  refine wpAnyH_ready (rs := [1]) (by kernel_rfl) (by simp) ?_
  refine AllReadyH.cons rfl (fun K hK => ?_) AllReadyH.nil
  try simp only [List.getElem_toArray, List.getElem_cons_zero, List.getElem_cons_succ]
  rw [if_pos (by rfl)]
  go_wp2_with (go_at_call 22; refine (HOf.out _).mono ?_; rintro e y1 ⟨rfl, hY1⟩)
  have z1 := Lib.hid (And.intro (R0.out.1.keep hY1) (R0.out.2.trans (hY1.mono R0.out.2.size)))
  clear hY1
  refine hK.out _ _ (z1.out.1) (fun _ => ?_)
  clear hK K
  try simp only [Act.put, List.getElem_toArray, List.getElem_cons_zero, List.getElem_cons_succ, List.setIfInBounds_toArray, List.set_cons_zero, List.set_cons_succ]
  refine wpAnyH_take (i := 3) (v := ?_) rfl (by kernel_rfl) (by kernel_rfl) (by kernel_rfl) (fun _ _ _ h => h) (Or.inl ⟨by rfl, ?_⟩) z1.out.1 ?_
  rotate_left
  · intro w hSw; (try dsimp only at hSw); go_simp; try with_reducible rfl
  try simp only [Act.put, List.getElem_toArray, List.getElem_cons_zero, List.getElem_cons_succ, List.setIfInBounds_toArray, List.set_cons_zero, List.set_cons_succ]
  refine wpAnyH_done (by kernel_rfl) ?_ _
  go_wp2
  go_ret2
  exact ⟨rfl, z1.out.2⟩
theorem prime3 : Prime 3 := ⟨by decide, fun d hd => by
  have := Nat.le_of_dvd (by decide) hd
  rcases (show d = 0 ∨ d = 1 ∨ d = 2 ∨ d = 3 by omega) with rfl | rfl | rfl | rfl
  · omega
  · exact .inl rfl
  · omega
  · exact .inr rfl⟩
theorem prime7 : Prime 7 := ⟨by decide, fun d hd => by
  have := Nat.le_of_dvd (by decide) hd
  rcases (show d = 0 ∨ d = 1 ∨ d = 2 ∨ d = 3 ∨ d = 4 ∨ d = 5 ∨ d = 6 ∨ d = 7 by omega) with rfl | rfl | rfl | rfl | rfl | rfl | rfl | rfl
  · omega
  · exact .inl rfl
  · omega
  · omega
  · omega
  · omega
  · omega
  · exact .inr rfl⟩
theorem small_fp (p : Nat) (ho : OddP (p : Int)) (hp : p < 1000) (w : World) : Calls Tryz.prog 52 #[.int .u64 (p : Int)] w fun r w' => ∃ v, r = .returned (.tuple #[v, .int .i64 0]) ∧ FP w' v p ∧ Below w.heap.size w w' :=
  (Small_any (p : Int) w (by omega) (by omega)).mono fun r w' h => FP.small ho h
set_option maxHeartbeats 4000000 in
set_option maxRecDepth 100000 in
theorem alive23_any (w : World) : Calls Tryz.prog 13 #[] w fun e w' => e = .returned (.bool true) ∧ Below w.heap.size w w' := by
  have hz : ∀ w, (zeroValue 29).run Tryz.prog w = .ok (.agg #[.int .u64 0, .int .u64 0, .int .u64 0]) w := (zero_of_info info_three).1
  have hz3 : ∀ w, (zeroValue 28).run Tryz.prog w = .ok (.agg #[.int .u64 0, .int .u64 0, .int .u64 0]) w := (zero_of_info info_w3).1
  have HS3 : Hid (∀ W, Calls Tryz.prog 52 #[.int .u64 3] W fun r w' => ∃ v, r = .returned (.tuple #[v, .int .i64 0]) ∧ FP w' v 3 ∧ Below W.heap.size W w') := Lib.hid (fun W => small_fp 3 ⟨by decide, by decide, prime3⟩ (by omega) W)
  have HS5 : Hid (∀ W, Calls Tryz.prog 52 #[.int .u64 5] W fun r w' => ∃ v, r = .returned (.tuple #[v, .int .i64 0]) ∧ FP w' v 5 ∧ Below W.heap.size W w') := Lib.hid (fun W => small_fp 5 oddP5 (by omega) W)
  have HS7 : Hid (∀ W, Calls Tryz.prog 52 #[.int .u64 7] W fun r w' => ∃ v, r = .returned (.tuple #[v, .int .i64 0]) ∧ FP w' v 7 ∧ Below W.heap.size W w') := Lib.hid (fun W => small_fp 7 ⟨by decide, by decide, prime7⟩ (by omega) W)
  go_enter Tryz.func13, Tryz.ntmps13
  go_wp2_with fail
  refine (HS3.out _).mono ?_
  rintro r w1 ⟨va, rfl, hFa, hB1⟩
  go_wp2_with fail
  refine (HS5.out _).mono ?_
  rintro r w2 ⟨vb, rfl, hFb, hB2⟩
  have hFa := hFa.keep hB2
  have hB2 := hB1.trans (hB2.mono hB1.size)
  go_wp2_with fail
  refine (HS7.out _).mono ?_
  rintro r w3 ⟨vc, rfl, hFc, hB3⟩
  have HFa := Lib.hid (hFa.keep hB3)
  have HFb := Lib.hid (hFb.keep hB3)
  have HFc := Lib.hid hFc
  have HB3 := Lib.hid (hB2.trans (hB3.mono hB2.size))
  clear hFa hFb hFc hB1 hB2 hB3 HS3 HS5 HS7
  go_wp2_with fail
  have hT : Tri 3 5 7 := ⟨prime3, prime5, prime7, by omega, by omega, by omega, by omega, by omega, by omega, by omega, by omega, by omega⟩
  refine (tnew_yes HFa.out.1 HFb.out.1 HFc.out.1 hT).mono ?_
  rintro r w4 ⟨v, rfl, hv, hB4⟩
  have HT := Lib.hid hT
  have HV := Lib.hid hv
  have HB4 := Lib.hid (HB3.out.trans (hB4.mono HB3.out.size))
  clear hv hB4 hT HFa HFb HFc HB3
  have HCe : Hid (Calls Tryz.prog 15 #[v, .agg #[.int .u64 104, .int .u64 0, .int .u64 0]] w4 fun e w' => e = .returned (.agg #[.int .u64 18446744073709551615, .int .u64 18446744073709551615, .int .u64 18446744073709551615]) ∧ Below w4.heap.size w4 w') := Lib.hid (by
    have h := tcentre_yes HV.out 104 (by omega) (by omega)
    rw [centre_104, three_m1] at h
    exact h)
  go_wp2_with fail
  refine HCe.out.mono ?_
  rintro r w5 ⟨rfl, hB5⟩
  have HV5 := Lib.hid ((HV.out.below hB5).mono hB5.size)
  have HB5 := Lib.hid (HB4.out.trans (hB5.mono HB4.out.size))
  clear hB5 HCe HV HB4
  go_wp2_with fail
  refine (lint_any _).mono ?_
  rintro r w6 ⟨rfl, hB6⟩
  have HV6 := Lib.hid ((HV5.out.below hB6).mono hB6.size)
  have HB6 := Lib.hid (HB5.out.trans (hB6.mono HB5.out.size))
  clear hB6 HV5 HB5
  have HJ : Hid (Calls Tryz.prog 21 #[v, .agg #[.int .u64 2, .int .u64 3, .int .u64 2]] w6 fun e w' => e = .returned (.agg #[.int .u64 23, .int .u64 0, .int .u64 0]) ∧ Below w6.heap.size w6 w') := Lib.hid (by
    refine (tjoin_yes HV6.out HT.out 2 3 2 (by omega) (by omega) (by omega)).mono ?_
    rintro e w' ⟨j, rfl, j0, j1, j2, j3, hB⟩
    have : j = 23 := by omega
    subst this
    exact ⟨rfl, hB⟩)
  go_wp2_with fail
  refine HJ.out.mono ?_
  rintro r w7 ⟨rfl, hB7⟩
  have HB7 := Lib.hid (HB6.out.trans (hB7.mono HB6.out.size))
  clear hB7 HJ HV6 HB6 HT
  go_wp2
  go_ret
  exact ⟨rfl, HB7.out⟩
end Go.Proofs.YtjjfiidgjiekpaaGreat
end

section
/- The laws on trios: what all of them use. -/
set_option linter.unusedVariables false
set_option linter.unusedSimpArgs false
namespace Go.Proofs.YtjjfiidgjiekpaaGreat
open Go.RowKit
open Alg (Prime)
theorem size_threes : (Tryz.prog.info? 27).map (·.size) = some 12 := by kernel_rfl
theorem eqn_dec (a b : Nat) (ha : a < 6277101735386680763835789423207666416102355444464034512896) (hb : b < 6277101735386680763835789423207666416102355444464034512896) : (((a % 18446744073709551616 : Nat) : Int) == ((b % 18446744073709551616 : Nat) : Int) && ((a / 18446744073709551616 % 18446744073709551616 : Nat) : Int) == ((b / 18446744073709551616 % 18446744073709551616 : Nat) : Int) && ((a / 340282366920938463463374607431768211456 % 18446744073709551616 : Nat) : Int) == ((b / 340282366920938463463374607431768211456 % 18446744073709551616 : Nat) : Int)) = decide (a = b) := by
  rw [Bool.eq_iff_iff]
  simp only [decide_eq_true_eq, Bool.and_eq_true, beq_iff_eq]
  omega
theorem eqn_three (a b : Nat) (ha : a < 6277101735386680763835789423207666416102355444464034512896) (hb : b < 6277101735386680763835789423207666416102355444464034512896) (w : World) : (Op.equalIn 10000 29 (.agg (three a)) (.agg (three b))).run Tryz.prog w = .ok (decide (a = b)) w := by
  have h := eq_three ((a % 18446744073709551616 : Nat) : Int) ((a / 18446744073709551616 % 18446744073709551616 : Nat) : Int) ((a / 340282366920938463463374607431768211456 % 18446744073709551616 : Nat) : Int) ((b % 18446744073709551616 : Nat) : Int) ((b / 18446744073709551616 % 18446744073709551616 : Nat) : Int) ((b / 340282366920938463463374607431768211456 % 18446744073709551616 : Nat) : Int) w
  rw [eqn_dec a b ha hb] at h
  exact h
theorem eqn_words (a b : Nat) (ha : a < 6277101735386680763835789423207666416102355444464034512896) (hb : b < 6277101735386680763835789423207666416102355444464034512896) (w : World) : (Op.equalIn 10000 28 (.agg (three a)) (.agg (three b))).run Tryz.prog w = .ok (decide (a = b)) w := by
  have h := eq_words ((a % 18446744073709551616 : Nat) : Int) ((a / 18446744073709551616 % 18446744073709551616 : Nat) : Int) ((a / 340282366920938463463374607431768211456 % 18446744073709551616 : Nat) : Int) ((b % 18446744073709551616 : Nat) : Int) ((b / 18446744073709551616 % 18446744073709551616 : Nat) : Int) ((b / 340282366920938463463374607431768211456 % 18446744073709551616 : Nat) : Int) w
  rw [eqn_dec a b ha hb] at h
  exact h
theorem Tri.crt {p q r x y : Nat} (hT : Tri p q r) (e1 : x % p = y % p) (e2 : x % q = y % q) (e3 : x % r = y % r) : x % (p * q * r) = y % (p * q * r) :=
  crt3 (prime_coprime hT.hp hT.hq hT.pq) (prime_coprime hT.hp hT.hr hT.pr) (prime_coprime hT.hq hT.hr hT.qr) e1 e2 e3
theorem Tri.lt {p q r : Nat} (hT : Tri p q r) : 0 < p * q * r ∧ p * q * r < 6277101735386680763835789423207666416102355444464034512896 := by
  have h1 : p * q * r ≤ 9223372036854775808 * 9223372036854775808 * 9223372036854775808 := Nat.mul_le_mul (Nat.mul_le_mul (Nat.le_of_lt hT.pm) (Nat.le_of_lt hT.qm)) (Nat.le_of_lt hT.rm)
  have h0 : 0 < p * q * r := Nat.mul_pos (Nat.mul_pos (by have := hT.p3; omega) (by have := hT.q3; omega)) (by have := hT.r3; omega)
  exact ⟨h0, by omega⟩
theorem w3n_lt {a b c : Nat} (ha : a < 18446744073709551616) (hb : b < 18446744073709551616) (hc : c < 18446744073709551616) : w3n a b c < 6277101735386680763835789423207666416102355444464034512896 := by unfold w3n; omega
end Go.Proofs.YtjjfiidgjiekpaaGreat
end
