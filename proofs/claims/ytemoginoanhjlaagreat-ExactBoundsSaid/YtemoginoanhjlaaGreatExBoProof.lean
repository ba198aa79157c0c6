/- ExactBounds: Size and Fits answer what the document says, of all trios and numbers. For every input; no condition. -/
import Derived.Test.YtemoginoanhjlaaGreatRows
import Derived.Test.YtemoginoanhjlaaGreatWAl24ExBo
import Derived.Test.YtemoginoanhjlaaGreatPost
import Derived.Test.YtemoginoanhjlaaGreatWOpenOpenU
import Derived.Test.YtemoginoanhjlaaGreatOpenT24
import Derived.Test.YtemoginoanhjlaaGreatWRef06ToMs24
import Derived.Test.YtemoginoanhjlaaGreatFactsplanFits
import Derived.ProofKit
import Derived.OpenShut
set_option linter.unusedVariables false
set_option linter.unusedSimpArgs false
set_option linter.unusedSectionVars false
namespace Go.Proofs.YtemoginoanhjlaaGreat.exactBounds
open Go.ChangeShapes Go.WideShapes Go.ChangeAt Go.RowKit

set_option maxRecDepth 100000 in
theorem lifted (os : Os) (started : os.Started) (H : Type) (enc : TypeId × Value → H) :
    ReturnsInHanded {} Tryz.checked os 7 .any (Rows.exactBoundsSpec.pre6 enc Tryz.prog Tryz.f7 Rows.exactBoundsRow.domain false) (Rows.exactBoundsSpec.post enc Tryz.prog Tryz.f7 false true false false) := by
  refine returnsInHanded_of_change_sized (C := Tryz.checked) ownP started (by kernel_rfl) Tryz.func7
    (ChangeSpec.witness6 (enc := enc) (C := Tryz.checked) false ⟨#[], #[.agg #[.int .i64 0, .int .i64 0, .int .u64 0, .slice none 0 0, .int .i64 0, .int .i64 0, .int .u64 0, .slice none 0 0, .int .i64 0, .int .i64 0, .int .u64 0, .slice none 0 0], .int .i64 0, .int .i64 0, .int .u64 0, .int .u64 0, .bool false], []⟩ 8 (by kernel_rfl) (by kernel_rfl) (by kernel_rfl) (by kernel_rfl)) ?_
  intro W base args ds gs before hval0 hW hcnd hsz _
  have hval : ∀ (j : Nat) t v, Tryz.f7.params[j]? = some t → args[j]? = some v → Value.okWide Tryz.prog W .any base t v := hval0
  have hW' := hW
  obtain ⟨p, q, hA0, hV, rfl, hfz, hnd⟩ := hW
  have hA : DataW.TrodAll enc Tryz.prog W 0 (fun _ => true) true Tryz.f7.params.toList args.toList ds p := hA0
  rw [Tryz.params7] at hA hval
  have hsz' : (DataW.weightsEach Tryz.prog (Tryz.f7.params.toList ++ Rows.exactBoundsSpec.plain.varTypes Tryz.prog) (ds ++ gs)).all (· ≤ reachBytes) = true := hsz
  rw [Tryz.params7] at hsz'
  obtain ⟨v0, vs0, d0, ds0, p0, q0, hargs, rfl, rfl, h0, r0⟩ := trodAll_cons hA
  obtain ⟨v1, vs1, d1, ds1, p1, q1, hargs1, rfl, rfl, h1, r1⟩ := trodAll_cons r0
  obtain ⟨v2, vs2, d2, ds2, p2, q2, hargs2, rfl, rfl, h2, r2⟩ := trodAll_cons r1
  obtain ⟨v3, vs3, d3, ds3, p3, q3, hargs3, rfl, rfl, h3, r3⟩ := trodAll_cons r2
  obtain ⟨v4, vs4, d4, ds4, p4, q4, hargs4, rfl, rfl, h4, r4⟩ := trodAll_cons r3
  obtain ⟨v5, vs5, d5, ds5, p5, q5, hargs5, rfl, rfl, h5, r5⟩ := trodAll_cons r4
  subst hargs1
  subst hargs2
  subst hargs3
  subst hargs4
  subst hargs5
  obtain ⟨rfl, rfl, rfl⟩ := trodAll_nil r5
  obtain rfl : args = #[v0, v1, v2, v3, v4, v5] := by cases args; simp_all
  obtain ⟨rfl, rfl⟩ := trodVars_none hV
  obtain ⟨x1, rfl, rfl, rfl, w1⟩ := open_int Tryz.underlying3 (hval 1 3 v1 rfl rfl) h1
  obtain ⟨x2, rfl, rfl, rfl, w2⟩ := open_int Tryz.underlying3 (hval 2 3 v2 rfl rfl) h2
  obtain ⟨x3, rfl, rfl, rfl, w3⟩ := open_int Tryz.underlying22 (hval 3 22 v3 rfl rfl) h3
  obtain ⟨x4, rfl, rfl, rfl, w4⟩ := open_int Tryz.underlying22 (hval 4 22 v4 rfl rfl) h4
  obtain ⟨b5, rfl, rfl, rfl⟩ := open_bool Tryz.underlying4 (hval 5 4 v5 rfl rfl) h5
  have h0k := h0
  obtain ⟨cs0, rfl, _⟩ := okWide_struct Tryz.underlying55 (hval 0 55 v0 rfl rfl)
  obtain ⟨fuel0, h0⟩ := h0
  obtain ⟨ca', cb', cc', hcs0, ⟨kinda, kka, ppa, Aa, ca, esa, rfl, _, _, g0a, g1a, hl1a, hl2a, hRa, hEa⟩, ⟨kindb, kkb, ppb, Ab, cb, esb, rfl, _, _, g0b, g1b, hl1b, hl2b, hRb, hEb⟩, ⟨kindc, kkc, ppc, Ac, cc, esc, rfl, _, _, g0c, g1c, hl1c, hl2c, hRc, hEc⟩⟩ := open_threes (y := (d0, p0)) h0 (fun k hk => by
    have := List.all_eq_true.1 hsz' k (DataW.weights_mem_each (j := 0) rfl rfl k hk)
    simpa using this)
  obtain rfl : cs0 = #[.int .i64 kinda, .int .i64 kka, .int .u64 ppa, .slice Aa esa.length ca, .int .i64 kindb, .int .i64 kkb, .int .u64 ppb, .slice Ab esb.length cb, .int .i64 kindc, .int .i64 kkc, .int .u64 ppc, .slice Ac esc.length cc] := by
    cases cs0; simpa [Value.cells] using hcs0
  clear hA0 hval0 hsz hsz' hcs0 h0
  simp only [List.append_nil] at hW'
  have hlt0 : ∀ x ∈ p0, x.block < W.heap.size := fun x hx => hW'.lt x (by simp [hx])
  have wf1 := wf_i64 w1
  have wf2 := wf_i64 w2
  have wf3 := wf_u64 w3
  have wf4 := wf_u64 w4
  refine (exactBounds_walk W Aa ca kinda kka ppa esa Ab cb kindb kkb ppb esb Ac cc kindc kkc ppc esc x1 x2 x3 x4 b5 ⟨g0a, g1a, hl1a, hl2a, hRa, hEa⟩ ⟨g0b, g1b, hl1b, hl2b, hRb, hEb⟩ ⟨g0c, g1c, hl1c, hl2c, hRc, hEc⟩ wf1.1 wf1.2 wf2.1 wf2.2 wf3.1 wf3.2 wf4.1 wf4.2 ).mono fun e W' ⟨he, hg⟩ => ?_
  subst he
  exact ⟨_, rfl, post_of_below (pa := p0 ++ ([])) (pv := []) hW' (fun _ _ _ => (trodAll_cons_mk (shut_bool Tryz.underlying4 _) trodAll_mk0))
    (fun sp hsp => (trodAll_cons_mk (WideElems.Trod_stays laidP (by kernel_rfl) (of_decide_eq_true (by kernel_rfl)) h0k (fun x hx => hg.same (hlt0 x hx)) (fun x hx => hsp x (by simp [hx]))) (trodAll_cons_mk (shut_int Tryz.underlying3 w1) (trodAll_cons_mk (shut_int Tryz.underlying3 w2) (trodAll_cons_mk (shut_int Tryz.underlying22 w3) (trodAll_cons_mk (shut_int Tryz.underlying22 w4) (trodAll_cons_mk (shut_bool Tryz.underlying4 _) trodAll_mk0))))))) (fun _ _ => rfl) (by simp)
    hg (ok_one (by kernel_rfl) rfl (okWide_bool_mk Tryz.underlying4 _))⟩

theorem closed : joinedFacts Tryz.prog 7 Tryz.f7 Rows.exactBoundsSpec Rows.exactBoundsRow = true := by
  unfold joinedFacts
  rw [laidP, mapsP, heardP, enterP, liftsP, makeP]
  kernel_rfl
theorem named : Tryz.prog.funcNamed Rows.exactBoundsRow.func = some 7 := by kernel_rfl
theorem over : Rows.exactBoundsRow.holds Tryz.pinned (OpenSpec.ofChange Rows.exactBoundsSpec) :=
  OpenClaim.holds_of_wide 7 Tryz.f7 rfl rfl rfl rfl rfl rfl rfl ⟨rfl, rfl, rfl, rfl, rfl⟩ rfl rfl rfl rfl rfl named Tryz.func7 closed
    (of_decide_eq_true (by kernel_rfl)) (by unfold Func.isWrapper; first | (rw [if_pos (by decide +kernel)]; kernel_rfl) | (rw [if_neg (by decide +kernel)]; exact ⟨rfl, rfl⟩))
    (fun os started H enc _ => lifted os started H enc)

theorem proved : Rows.ExactBoundsSaid :=
  over
#print axioms proved
end Go.Proofs.YtemoginoanhjlaaGreat.exactBounds
