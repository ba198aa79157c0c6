/- The laws on trios: fields or none; trio. -/
import Derived.Test.YtemoginoanhjlaaGreatWGarCGarD
import Derived.Test.YtemoginoanhjlaaGreatAl5
import Derived.Test.YtemoginoanhjlaaGreatWRef06ToMs24
set_option linter.unusedVariables false
set_option linter.unusedSimpArgs false
set_option linter.unusedSectionVars false
namespace Go.Proofs.YtemoginoanhjlaaGreat
open Go.RowKit
open Alg (Prime)
theorem FV.keep {w w' : World} {v : Value} {p : Nat} (h : FV w v p) (hb : Below w.heap.size w w') : FV w' v p := by
  rcases h with h | ⟨h3, b, g, e, hF⟩
  · exact .inl h
  · exact .inr ⟨h3, b, g, e, (hF.1.below hb).mono hb.size, hF.2⟩
/-- A field of a prime, or none. -/
def FP (w : World) (v : Value) (p : Nat) : Prop := FV w v p ∧ p < 9223372036854775808 ∧ (p ≠ 0 → Prime p)
theorem FP.keep {w w' : World} {v : Value} {p : Nat} (h : FP w v p) (hb : Below w.heap.size w w') : FP w' v p := ⟨h.1.keep hb, h.2⟩
theorem FP.of {w : World} {v : Value} {p g : Int} (h : MadeR v p g w) : ∃ q : Nat, p = (q : Int) ∧ FP w v q := by
  rcases h with ⟨rfl, _, rfl⟩ | ⟨h3, hC, hF⟩
  · exact ⟨0, rfl, .inl ⟨rfl, rfl⟩, by omega, fun h => absurd rfl h⟩
  · obtain ⟨q, rfl⟩ := Int.eq_ofNat_of_zero_le (show 0 ≤ p by omega)
    have hm := hF.pmx
    obtain ⟨b, c, t, o, s, sv, rfl, hb, hc, hA⟩ := hF
    exact ⟨q, rfl, .inr ⟨by omega, b, g, rfl, ⟨b, c, t, o, s, sv, rfl, hb, hc, hA⟩, hC⟩, by omega, fun _ => hC.nat.1⟩
theorem FP.small {w w' : World} {r : Ending} {p : Nat} (ho : OddP (p : Int)) (h : SmallP (p : Int) w r w') : ∃ v, r = .returned (.tuple #[v, .int .i64 0]) ∧ FP w' v p ∧ Below w.heap.size w w' := by
  rcases h with ⟨_, g, hg, hM⟩ | ⟨hn, _⟩
  · obtain ⟨hB, ⟨er, h0, _⟩ | ⟨v, h3, hC, hr, hF⟩⟩ := hM
    · exact absurd h0 (by have := ho.1; omega)
    · refine ⟨v, hr, ?_, hB⟩
      obtain ⟨q, hq, hf⟩ := FP.of (.inr ⟨h3, hC, hF⟩ : MadeR v (p : Int) (g : Int) w')
      have : q = p := by omega
      exact this ▸ hf
  · exact absurd ho hn
/-- What a law's trio answers. -/
def TR (w' : World) (v : Value) (p q r : Nat) (e : Int) (ok : Bool) : Prop :=
  p < 9223372036854775808 ∧ q < 9223372036854775808 ∧ r < 9223372036854775808 ∧ ((ok = true ∧ e = 0 ∧ Tri p q r ∧ TrioP w' w'.heap.size v p q r) ∨ (ok = false ∧ v = .pointer none ∧ e = (if p = 0 ∨ q = 0 ∨ r = 0 then 2 else 1) ∧ ¬ (p ≠ 0 ∧ q ≠ 0 ∧ r ≠ 0 ∧ p ≠ q ∧ p ≠ r ∧ q ≠ r)))
theorem TR.keep {w w' : World} {v : Value} {p q r : Nat} {e : Int} {ok : Bool} (h : TR w v p q r e ok) (hb : Below w.heap.size w w') : TR w' v p q r e ok := by
  obtain ⟨a, b, c, ⟨h1, h2, h3, h4⟩ | h⟩ := h
  · exact ⟨a, b, c, .inl ⟨h1, h2, h3, (h4.below hb).mono hb.size⟩⟩
  · exact ⟨a, b, c, .inr h⟩
theorem Fd.setRow {w : World} {B : Nat} {v : Value} {p g : Int} (h : Fd w B v p g) {N m : Nat} {t : TypeId} (hN : RowAt w N t (three m)) (cs : Array Value) : Fd (w.setRow N cs) B v p g := by
  obtain ⟨b, c, tt, o, s, sv, rfl, hb, hc, hF⟩ := h
  have hbN : b ≠ N := by
    rintro rfl
    have h1 := hF.f0
    rw [hN.cell (three_get m 0 (by omega))] at h1
    cases h1
  have hcN : c ≠ N := by
    rintro rfl
    have h1 := hF.ctx.c3
    rw [cell_of_row w c 3 (three m) t (0, 0) hN] at h1
    cases h1
  have hk : ∀ (x j : Nat) (u : Value), x ≠ N → w.cell? ⟨x, j, none⟩ = some u → (w.setRow N cs).cell? ⟨x, j, none⟩ = some u := fun x j u hx hh => by
    rw [cell_setRow_other w N cs ⟨x, j, none⟩ hx]; exact hh
  have hC := hF.ctx
  exact ⟨b, c, tt, o, s, sv, rfl, hb, hc, ⟨⟨hk c 0 _ hcN hC.c0, hk c 1 _ hcN hC.c1, hk c 2 _ hcN hC.c2, hk c 3 _ hcN hC.c3, hC.m1, hC.m2, hC.mo, hC.t0, hC.t1, hC.tm, hC.eo, hC.es⟩, hk b 0 _ hbN hF.f0, hk b 1 _ hbN hF.f1, hk b 2 _ hbN hF.f2, hk b 3 _ hbN hF.f3⟩⟩
theorem TrioP.setRow {w : World} {B : Nat} {v : Value} {p q r : Nat} (h : TrioP w B v p q r) {N m : Nat} {t : TypeId} (hN : RowAt w N t (three m)) (cs : Array Value) : TrioP (w.setRow N cs) B v p q r := by
  obtain ⟨G, va, vb, vc, s, u, g1, g2, g3, rfl, hG, ha, hbb, hc, hr, h1⟩ := h
  have hGN : G ≠ N := by
    rintro rfl
    have h1 := hr.cell (i := 3) (v := .int .u64 (s : Int)) rfl
    rw [cell_of_row w G 3 (three m) t (0, 0) hN] at h1
    cases h1
  exact ⟨G, va, vb, vc, s, u, g1, g2, g3, rfl, hG, ha.setRow hN cs, hbb.setRow hN cs, hc.setRow hN cs, hr.setRowOther _ _ hGN, h1⟩
theorem size_setRow (w : World) (N : Nat) (cs : Array Value) : (w.setRow N cs).heap.size = w.heap.size := by simp [World.setRow]
theorem TR.setRow {w : World} {v : Value} {p q r : Nat} {e : Int} {ok : Bool} (h : TR w v p q r e ok) {N m : Nat} {t : TypeId} (hN : RowAt w N t (three m)) (cs : Array Value) : TR (w.setRow N cs) v p q r e ok := by
  obtain ⟨a, b, c, ⟨h1, h2, h3, h4⟩ | h⟩ := h
  · exact ⟨a, b, c, .inl ⟨h1, h2, h3, by rw [size_setRow]; exact h4.setRow hN cs⟩⟩
  · exact ⟨a, b, c, .inr h⟩
theorem new_tr {w : World} {va vb vc : Value} {p q r : Nat} (ha : FP w va p) (hb : FP w vb q) (hc : FP w vc r) :
    Calls Tryz.prog 57 #[va, vb, vc] w fun e w' => ∃ v er, e = .returned (.tuple #[v, .int .i64 er]) ∧ TR w' v p q r er (decide (p ≠ 0 ∧ q ≠ 0 ∧ r ≠ 0 ∧ p ≠ q ∧ p ≠ r ∧ q ≠ r)) ∧ Below w.heap.size w w' := by
  have hp3 : p = 0 ∨ 3 ≤ p := by rcases ha.1 with ⟨h, _⟩ | ⟨h, _⟩ <;> omega
  have hq3 : q = 0 ∨ 3 ≤ q := by rcases hb.1 with ⟨h, _⟩ | ⟨h, _⟩ <;> omega
  have hr3 : r = 0 ∨ 3 ≤ r := by rcases hc.1 with ⟨h, _⟩ | ⟨h, _⟩ <;> omega
  by_cases hz : p = 0 ∨ q = 0 ∨ r = 0
  · refine (tnew_nil ha.1 hb.1 hc.1 hz).mono ?_
    rintro e w' ⟨rfl, rfl⟩
    exact ⟨_, _, rfl, ⟨ha.2.1, hb.2.1, hc.2.1, .inr ⟨decide_eq_false (by omega), rfl, by rw [if_pos hz], by omega⟩⟩, Below.refl _ _⟩
  · by_cases he : p = q ∨ p = r ∨ q = r
    · refine (tnew_same ha.1 hb.1 hc.1 (by omega) he).mono ?_
      rintro e w' ⟨rfl, rfl⟩
      exact ⟨_, _, rfl, ⟨ha.2.1, hb.2.1, hc.2.1, .inr ⟨decide_eq_false (by omega), rfl, by rw [if_neg hz], by omega⟩⟩, Below.refl _ _⟩
    · have hT : Tri p q r := ⟨ha.2.2 (by omega), hb.2.2 (by omega), hc.2.2 (by omega), by omega, by omega, by omega, by omega, by omega, by omega, ha.2.1, hb.2.1, hc.2.1⟩
      refine (tnew_yes ha.1 hb.1 hc.1 hT).mono ?_
      rintro e w' ⟨v, rfl, hv, hB⟩
      exact ⟨_, _, rfl, ⟨ha.2.1, hb.2.1, hc.2.1, .inl ⟨decide_eq_true (by omega), rfl, hT, hv⟩⟩, hB⟩
section
variable {P : Program}
theorem results_trio {fn : Func} {p t1 t2 t3 : Tmp} {ty : TypeId} (h : fn.results = #[.tmp t1, .cell p ty, .tmp t2, .tmp t3]) (tmps : Array Value) (w : World) (g : Nat) (t : TypeId) (cs : Array Value) (d : TypeDesc)
    (hp : tmps.getD p undef = .pointer (some ⟨g, 0, none⟩)) (hg : RowAt w g t cs)
    (hu : P.underlying ty = some d) (hd : (match d with | .struct _ | .array _ _ => true | _ => false) = true) (hi : (P.info? ty).map (·.size) = some cs.size) :
    (results fn tmps).run P w = .ok (.tuple #[tmps.getD t1 undef, .agg cs, tmps.getD t2 undef, tmps.getD t3 undef]) w := by
  have hp' : tmps[p]?.getD undef = .pointer (some ⟨g, 0, none⟩) := by simpa using hp
  simp [results, h, hp', asAddr, run_loadVar_row w g t ty cs (0, 0) d hg hu hd hi]
theorem results_trio3 {fn : Func} {p t1 t2 : Tmp} {ty : TypeId} (h : fn.results = #[.tmp t1, .cell p ty, .tmp t2]) (tmps : Array Value) (w : World) (g : Nat) (t : TypeId) (cs : Array Value) (d : TypeDesc)
    (hp : tmps.getD p undef = .pointer (some ⟨g, 0, none⟩)) (hg : RowAt w g t cs)
    (hu : P.underlying ty = some d) (hd : (match d with | .struct _ | .array _ _ => true | _ => false) = true) (hi : (P.info? ty).map (·.size) = some cs.size) :
    (results fn tmps).run P w = .ok (.tuple #[tmps.getD t1 undef, .agg cs, tmps.getD t2 undef]) w := by
  have hp' : tmps[p]?.getD undef = .pointer (some ⟨g, 0, none⟩) := by simpa using hp
  simp [results, h, hp', asAddr, run_loadVar_row w g t ty cs (0, 0) d hg hu hd hi]
end
set_option maxHeartbeats 4000000 in
set_option maxRecDepth 100000 in
theorem trio_any (w : World) (Aa : Option Addr) (ca : Nat) (kinda kka ppa : Int) (esa : List Ent) (Ab : Option Addr) (cb : Nat) (kindb kkb ppb : Int) (esb : List Ent) (Ac : Option Addr) (cc : Nat) (kindc kkc ppc : Int) (esc : List Ent) (hsa : SrcA w Aa ca kinda kka ppa esa) (hsb : SrcA w Ab cb kindb kkb ppb esb) (hsc : SrcA w Ac cc kindc kkc ppc esc) :
    Calls Tryz.prog 26 #[.agg #[.int .i64 kinda, .int .i64 kka, .int .u64 ppa, .slice Aa esa.length ca, .int .i64 kindb, .int .i64 kkb, .int .u64 ppb, .slice Ab esb.length cb, .int .i64 kindc, .int .i64 kkc, .int .u64 ppc, .slice Ac esc.length cc]] w fun x w' => ∃ (v : Value) (p q r : Nat) (e : Int) (ok : Bool), x = .returned (.tuple #[v, .agg #[.int .u64 (p : Int), .int .u64 (q : Int), .int .u64 (r : Int)], .bool ok]) ∧ TR w' v p q r e ok ∧ Below w.heap.size w w' := by
  have hz := (zero_of_info info_w3).1
  obtain ⟨R0, R1, hB⟩ := lay2 w 55 58 #[.int .i64 kinda, .int .i64 kka, .int .u64 ppa, .slice Aa esa.length ca, .int .i64 kindb, .int .i64 kkb, .int .u64 ppb, .slice Ab esb.length cb, .int .i64 kindc, .int .i64 kkc, .int .u64 ppc, .slice Ac esc.length cc] (three 0)
  have HR0 := Lib.hid R0
  have HR1 := Lib.hid R1
  have HB := Lib.hid hB
  have HSa := Lib.hid hsa
  have HSb := Lib.hid hsb
  have HSc := Lib.hid hsc
  have d0 := R0.cell (i := 0) (v := .int .i64 kinda) rfl
  have d1 := R0.cell (i := 1) (v := .int .i64 kka) rfl
  have d2 := R0.cell (i := 2) (v := .int .u64 ppa) rfl
  have d3 := R0.cell (i := 3) (v := .slice Aa esa.length ca) rfl
  have d4 := R0.cell (i := 4) (v := .int .i64 kindb) rfl
  have d5 := R0.cell (i := 5) (v := .int .i64 kkb) rfl
  have d6 := R0.cell (i := 6) (v := .int .u64 ppb) rfl
  have d7 := R0.cell (i := 7) (v := .slice Ab esb.length cb) rfl
  have d8 := R0.cell (i := 8) (v := .int .i64 kindc) rfl
  have d9 := R0.cell (i := 9) (v := .int .i64 kkc) rfl
  have d10 := R0.cell (i := 10) (v := .int .u64 ppc) rfl
  have d11 := R0.cell (i := 11) (v := .slice Ac esc.length cc) rfl
  clear hsa hsb hsc R0 R1 hB
  go_enter Tryz.func26, Tryz.ntmps26
  go_wp2_with fail
  generalize ((w.alloc (.cells #[.int .i64 kinda, .int .i64 kka, .int .u64 ppa, .slice Aa esa.length ca, .int .i64 kindb, .int .i64 kkb, .int .u64 ppb, .slice Ab esb.length cb, .int .i64 kindc, .int .i64 kkc, .int .u64 ppc, .slice Ac esc.length cc] 55)).alloc (.cells (three 0) 58)) = w1 at *
  refine (made_src (HSa.out.below HB.out)).mono ?_
  rintro x w2 ⟨va, p', g', rfl, hM, hBm⟩
  obtain ⟨pa, rfl, hfa⟩ := FP.of hM
  have HFa := Lib.hid hfa
  have HB1 := Lib.hid (HB.out.trans (hBm.mono HB.out.size))
  have HR2 := Lib.hid (HR0.out.keep hBm)
  have HR3 := Lib.hid (HR1.out.keep hBm)
  clear hM hBm hfa d0 d1 d2 d3 d4 d5 d6 d7 d8 d9 d10 d11
  have d0 := HR2.out.cell (i := 0) (v := .int .i64 kinda) rfl
  have d1 := HR2.out.cell (i := 1) (v := .int .i64 kka) rfl
  have d2 := HR2.out.cell (i := 2) (v := .int .u64 ppa) rfl
  have d3 := HR2.out.cell (i := 3) (v := .slice Aa esa.length ca) rfl
  have d4 := HR2.out.cell (i := 4) (v := .int .i64 kindb) rfl
  have d5 := HR2.out.cell (i := 5) (v := .int .i64 kkb) rfl
  have d6 := HR2.out.cell (i := 6) (v := .int .u64 ppb) rfl
  have d7 := HR2.out.cell (i := 7) (v := .slice Ab esb.length cb) rfl
  have d8 := HR2.out.cell (i := 8) (v := .int .i64 kindc) rfl
  have d9 := HR2.out.cell (i := 9) (v := .int .i64 kkc) rfl
  have d10 := HR2.out.cell (i := 10) (v := .int .u64 ppc) rfl
  have d11 := HR2.out.cell (i := 11) (v := .slice Ac esc.length cc) rfl
  go_wp2_with fail
  refine (made_src (HSb.out.below HB1.out)).mono ?_
  rintro x w3 ⟨vb, p', g', rfl, hM, hBm⟩
  obtain ⟨pb, rfl, hfb⟩ := FP.of hM
  have HFb := Lib.hid hfb
  have HB2 := Lib.hid (HB1.out.trans (hBm.mono HB1.out.size))
  have HR4 := Lib.hid (HR2.out.keep hBm)
  have HR5 := Lib.hid (HR3.out.keep hBm)
  have HFa := Lib.hid (HFa.out.keep hBm)
  clear hM hBm hfb d0 d1 d2 d3 d4 d5 d6 d7 d8 d9 d10 d11
  have d0 := HR4.out.cell (i := 0) (v := .int .i64 kinda) rfl
  have d1 := HR4.out.cell (i := 1) (v := .int .i64 kka) rfl
  have d2 := HR4.out.cell (i := 2) (v := .int .u64 ppa) rfl
  have d3 := HR4.out.cell (i := 3) (v := .slice Aa esa.length ca) rfl
  have d4 := HR4.out.cell (i := 4) (v := .int .i64 kindb) rfl
  have d5 := HR4.out.cell (i := 5) (v := .int .i64 kkb) rfl
  have d6 := HR4.out.cell (i := 6) (v := .int .u64 ppb) rfl
  have d7 := HR4.out.cell (i := 7) (v := .slice Ab esb.length cb) rfl
  have d8 := HR4.out.cell (i := 8) (v := .int .i64 kindc) rfl
  have d9 := HR4.out.cell (i := 9) (v := .int .i64 kkc) rfl
  have d10 := HR4.out.cell (i := 10) (v := .int .u64 ppc) rfl
  have d11 := HR4.out.cell (i := 11) (v := .slice Ac esc.length cc) rfl
  go_wp2_with fail
  refine (made_src (HSc.out.below HB2.out)).mono ?_
  rintro x w4 ⟨vc, p', g', rfl, hM, hBm⟩
  obtain ⟨pc, rfl, hfc⟩ := FP.of hM
  have HFc := Lib.hid hfc
  have HB3 := Lib.hid (HB2.out.trans (hBm.mono HB2.out.size))
  have HR6 := Lib.hid (HR4.out.keep hBm)
  have HR7 := Lib.hid (HR5.out.keep hBm)
  have HFa := Lib.hid (HFa.out.keep hBm)
  have HFb := Lib.hid (HFb.out.keep hBm)
  clear hM hBm hfc d0 d1 d2 d3 d4 d5 d6 d7 d8 d9 d10 d11
  have d0 := HR6.out.cell (i := 0) (v := .int .i64 kinda) rfl
  have d1 := HR6.out.cell (i := 1) (v := .int .i64 kka) rfl
  have d2 := HR6.out.cell (i := 2) (v := .int .u64 ppa) rfl
  have d3 := HR6.out.cell (i := 3) (v := .slice Aa esa.length ca) rfl
  have d4 := HR6.out.cell (i := 4) (v := .int .i64 kindb) rfl
  have d5 := HR6.out.cell (i := 5) (v := .int .i64 kkb) rfl
  have d6 := HR6.out.cell (i := 6) (v := .int .u64 ppb) rfl
  have d7 := HR6.out.cell (i := 7) (v := .slice Ab esb.length cb) rfl
  have d8 := HR6.out.cell (i := 8) (v := .int .i64 kindc) rfl
  have d9 := HR6.out.cell (i := 9) (v := .int .i64 kkc) rfl
  have d10 := HR6.out.cell (i := 10) (v := .int .u64 ppc) rfl
  have d11 := HR6.out.cell (i := 11) (v := .slice Ac esc.length cc) rfl
  go_wp2_with fail
  clear d0 d1 d2 d3 d4 d5 d6 d7 d8 d9 d10 d11
  refine (new_tr HFa.out HFb.out HFc.out).mono ?_
  rintro x w5 ⟨v, er, rfl, hTR, hBm⟩
  have HR9 := Lib.hid (HR7.out.keep hBm)
  have HB4 := Lib.hid (HB3.out.trans (hBm.mono HB3.out.size))
  have b1 : pa < 9223372036854775808 := hTR.1
  have b2 : pb < 9223372036854775808 := hTR.2.1
  have b3 : pc < 9223372036854775808 := hTR.2.2.1
  have HE : Hid (∀ ok : Bool, ok = decide (pa ≠ 0 ∧ pb ≠ 0 ∧ pc ≠ 0 ∧ pa ≠ pb ∧ pa ≠ pc ∧ pb ≠ pc) → TR (w5.setRow (w.heap.size + 1) #[.int .u64 (pa : Int), .int .u64 (pb : Int), .int .u64 (pc : Int)]) v pa pb pc er ok) := Lib.hid (fun ok he => by
    subst he
    exact hTR.setRow HR9.out _)
  have HZ : Hid (RowAt (w5.setRow (w.heap.size + 1) #[.int .u64 (pa : Int), .int .u64 (pb : Int), .int .u64 (pc : Int)]) (w.heap.size + 1) 58 #[.int .u64 (pa : Int), .int .u64 (pb : Int), .int .u64 (pc : Int)] ∧ Below w.heap.size w (w5.setRow (w.heap.size + 1) #[.int .u64 (pa : Int), .int .u64 (pb : Int), .int .u64 (pc : Int)])) := Lib.hid ⟨HR9.out.setRow _, below_setRow HB4.out (by omega) _⟩
  clear hTR hBm
  by_cases za : pa = 0
  · have ta : 2 * (pa : Int) ≤ 1 := by omega
    have HH := Lib.hid za
    clear za
    go_wp2_with (refine wpList_store_row rfl _ _ _ rfl _ #[.int .u64 (pa : Int), .int .u64 (pb : Int), .int .u64 (pc : Int)] rfl rfl _ _ (HR9.out) size_w3 rfl (one3 _ _ _) ?_)
    refine bodyPost_ret (results_trio3 rfl _ _ _ _ _ _ rfl HZ.out.1 Tryz.underlying58 rfl size_w3) (by rfl) ?_
    exact ⟨v, pa, pb, pc, er, false, rfl, HE.out false (by have := HH.out; simp <;> omega), HZ.out.2⟩
  · have ta : decide ((pa : Int) > 0) = true := decide_eq_true (by omega)
    by_cases zb : pb = 0
    · have tb : 2 * (pb : Int) ≤ 1 := by omega
      have HH := Lib.hid zb
      clear zb
      go_wp2_with (refine wpList_store_row rfl _ _ _ rfl _ #[.int .u64 (pa : Int), .int .u64 (pb : Int), .int .u64 (pc : Int)] rfl rfl _ _ (HR9.out) size_w3 rfl (one3 _ _ _) ?_)
      refine bodyPost_ret (results_trio3 rfl _ _ _ _ _ _ rfl HZ.out.1 Tryz.underlying58 rfl size_w3) (by rfl) ?_
      exact ⟨v, pa, pb, pc, er, false, rfl, HE.out false (by have := HH.out; simp <;> omega), HZ.out.2⟩
    · have tb : decide ((pb : Int) > 0) = true := decide_eq_true (by omega)
      by_cases zc : pc = 0
      · have tc : 2 * (pc : Int) ≤ 1 := by omega
        have HH := Lib.hid zc
        clear zc
        go_wp2_with (refine wpList_store_row rfl _ _ _ rfl _ #[.int .u64 (pa : Int), .int .u64 (pb : Int), .int .u64 (pc : Int)] rfl rfl _ _ (HR9.out) size_w3 rfl (one3 _ _ _) ?_)
        refine bodyPost_ret (results_trio3 rfl _ _ _ _ _ _ rfl HZ.out.1 Tryz.underlying58 rfl size_w3) (by rfl) ?_
        exact ⟨v, pa, pb, pc, er, false, rfl, HE.out false (by have := HH.out; simp <;> omega), HZ.out.2⟩
      · have tc : decide ((pc : Int) > 0) = true := decide_eq_true (by omega)
        by_cases hab : pa = pb
        · have eab : ((pa : Int) != (pb : Int)) = false := by simp [hab]
          have HH := Lib.hid hab
          clear hab
          go_wp2_with (refine wpList_store_row rfl _ _ _ rfl _ #[.int .u64 (pa : Int), .int .u64 (pb : Int), .int .u64 (pc : Int)] rfl rfl _ _ (HR9.out) size_w3 rfl (one3 _ _ _) ?_)
          refine bodyPost_ret (results_trio3 rfl _ _ _ _ _ _ rfl HZ.out.1 Tryz.underlying58 rfl size_w3) (by rfl) ?_
          exact ⟨v, pa, pb, pc, er, false, rfl, HE.out false (by have := HH.out; simp <;> omega), HZ.out.2⟩
        · have eab : ((pa : Int) != (pb : Int)) = true := by simp; omega
          by_cases hac : pa = pc
          · have eac : ((pa : Int) != (pc : Int)) = false := by simp [hac]
            have HH := Lib.hid hac
            clear hac
            go_wp2_with (refine wpList_store_row rfl _ _ _ rfl _ #[.int .u64 (pa : Int), .int .u64 (pb : Int), .int .u64 (pc : Int)] rfl rfl _ _ (HR9.out) size_w3 rfl (one3 _ _ _) ?_)
            refine bodyPost_ret (results_trio3 rfl _ _ _ _ _ _ rfl HZ.out.1 Tryz.underlying58 rfl size_w3) (by rfl) ?_
            exact ⟨v, pa, pb, pc, er, false, rfl, HE.out false (by have := HH.out; simp <;> omega), HZ.out.2⟩
          · have eac : ((pa : Int) != (pc : Int)) = true := by simp; omega
            by_cases hbc : pb = pc
            · have ebc : ((pb : Int) != (pc : Int)) = false := by simp [hbc]
              have HH := Lib.hid hbc
              clear hbc
              go_wp2_with (refine wpList_store_row rfl _ _ _ rfl _ #[.int .u64 (pa : Int), .int .u64 (pb : Int), .int .u64 (pc : Int)] rfl rfl _ _ (HR9.out) size_w3 rfl (one3 _ _ _) ?_)
              refine bodyPost_ret (results_trio3 rfl _ _ _ _ _ _ rfl HZ.out.1 Tryz.underlying58 rfl size_w3) (by rfl) ?_
              exact ⟨v, pa, pb, pc, er, false, rfl, HE.out false (by have := HH.out; simp <;> omega), HZ.out.2⟩
            · have ebc : ((pb : Int) != (pc : Int)) = true := by simp; omega
              go_wp2_with (refine wpList_store_row rfl _ _ _ rfl _ #[.int .u64 (pa : Int), .int .u64 (pb : Int), .int .u64 (pc : Int)] rfl rfl _ _ (HR9.out) size_w3 rfl (one3 _ _ _) ?_)
              refine bodyPost_ret (results_trio3 rfl _ _ _ _ _ _ rfl HZ.out.1 Tryz.underlying58 rfl size_w3) (by rfl) ?_
              exact ⟨v, pa, pb, pc, er, true, rfl, HE.out true (by simp <;> omega), HZ.out.2⟩
end Go.Proofs.YtemoginoanhjlaaGreat
