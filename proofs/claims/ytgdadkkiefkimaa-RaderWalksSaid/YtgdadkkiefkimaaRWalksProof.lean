/- RaderWalks: for every source of a field and every number, rader's Pad, Fits and Walk answer what the document says. For every input; no condition. -/
import Derived.Test.YtgdadkkiefkimaaRows
import Derived.Test.YtgdadkkiefkimaaRWalks
import Derived.Test.YtgdadkkiefkimaaPost
import Derived.Test.YtgdadkkiefkimaaOpen
import Derived.ProofKit
import Derived.OpenShut
namespace Go.Proofs.Ytgdadkkiefkimaa.raderWalks
open Go.ChangeShapes Go.WideShapes Go.ChangeAt Go.RowKit

theorem own : ownKnob Try.prog.godebug = none := by kernel_rfl
theorem laid : laidOutB Try.prog = true := by kernel_rfl

set_option maxRecDepth 100000 in
theorem lifted (os : Os) (started : os.Started) (H : Type) (enc : TypeId × Value → H) :
    ReturnsInHanded {} Try.checked os 4 .any (Rows.raderWalksSpec.pre6 enc Try.prog Try.f4 Rows.raderWalksRow.domain false) (Rows.raderWalksSpec.post enc Try.prog Try.f4 false true false false) := by
  refine returnsInHanded_of_change_sized (C := Try.checked) own started (by kernel_rfl) Try.func4
    (ChangeSpec.witness6 (enc := enc) (C := Try.checked) false ⟨#[], #[.agg #[.int .i64 0, .int .i64 0, .int .u64 0, .slice none 0 0], .int .i64 0], []⟩ 8 (by kernel_rfl) (by kernel_rfl) (by kernel_rfl) (by kernel_rfl)) ?_
  intro W base args ds gs before hval0 hW hcnd hsz _
  have hval : ∀ (j : Nat) t v, Try.f4.params[j]? = some t → args[j]? = some v → Value.okWide Try.prog W .any base t v := hval0
  have hW' := hW
  obtain ⟨p, q, hA0, hV, rfl, hfz, hnd⟩ := hW
  have hA : DataW.TrodAll enc Try.prog W 0 (fun _ => true) true Try.f4.params.toList args.toList ds p := hA0
  rw [Try.params4] at hA hval
  have hsz' : (DataW.weightsEach Try.prog (Try.f4.params.toList ++ Rows.raderWalksSpec.plain.varTypes Try.prog) (ds ++ gs)).all (· ≤ reachBytes) = true := hsz
  rw [Try.params4] at hsz'
  obtain ⟨v0, vs0, d0, ds0, p0, q0, hargs, rfl, rfl, h0, r0⟩ := trodAll_cons hA
  obtain ⟨v1, vs1, d1, ds1, p1, q1, hargs1, rfl, rfl, h1, r1⟩ := trodAll_cons r0
  subst hargs1
  obtain ⟨rfl, rfl, rfl⟩ := trodAll_nil r1
  obtain rfl : args = #[v0, v1] := by cases args; simp_all
  obtain ⟨rfl, rfl⟩ := trodVars_none hV
  obtain ⟨a1, rfl, rfl, rfl, w1⟩ := open_int Try.underlying3 (hval 1 3 v1 rfl rfl) h1
  have h0k := h0
  obtain ⟨cs, rfl, _⟩ := okWide_struct Try.underlying31 (hval 0 31 v0 rfl rfl)
  obtain ⟨fuel, h0⟩ := h0
  obtain ⟨kind, kk, pp, A, c, es, hcs, _, _, g0, g1, hl1, hl2, hR, hE⟩ := open_src (y := (d0, p0)) h0 (fun k hk => by
    have := List.all_eq_true.1 hsz' k (DataW.weights_mem_each (j := 0) rfl rfl k hk)
    simpa using this)
  obtain rfl : cs = #[.int .i64 kind, .int .i64 kk, .int .u64 pp, .slice A es.length c] := by
    cases cs; simpa [Value.cells] using hcs
  clear hA0 hval0 hcs h0 hsz hsz'
  simp only [List.append_nil] at hW'
  have hwf : -9223372036854775808 ≤ a1 ∧ a1 ≤ 9223372036854775807 := wf_i64 w1
  have hlt : ∀ x ∈ p0, x.block < W.heap.size := fun x hx => hW'.lt x (by simpa using hx)
  refine (raderWalks_walk A c kind kk pp a1 es W g0 g1 hwf.1 hwf.2 hl1 hl2 hR hE).mono fun e W' ⟨he, hg⟩ => ?_
  subst he
  exact ⟨_, rfl, post_of_below (pa := p0 ++ []) (pv := []) hW' (fun _ _ _ => (trodAll_cons_mk (shut_bool Try.underlying4 _) trodAll_mk0))
    (fun sp hsp => (trodAll_cons_mk (WideElems.Trod_stays laid (by kernel_rfl) (of_decide_eq_true (by kernel_rfl)) h0k (fun x hx => hg.same (hlt x hx)) (fun x hx => hsp x (by simpa using hx))) (trodAll_cons_mk (shut_int Try.underlying3 w1) trodAll_mk0))) (fun _ _ => rfl) (by simp)
    hg (ok_one (by kernel_rfl) rfl (okWide_bool_mk Try.underlying4 _))⟩

theorem over : Rows.raderWalksRow.holds Try.pinned (OpenSpec.ofChange Rows.raderWalksSpec) :=
  OpenClaim.holds_of_wide 4 Try.f4 rfl rfl rfl rfl rfl rfl rfl ⟨rfl, rfl, rfl, rfl, rfl⟩ rfl rfl rfl rfl rfl (by kernel_rfl) Try.func4 (by kernel_rfl)
    (of_decide_eq_true (by kernel_rfl)) (by unfold Func.isWrapper; first | (rw [if_pos (by decide +kernel)]; kernel_rfl) | (rw [if_neg (by decide +kernel)]; exact ⟨rfl, rfl⟩))
    (fun os started H enc _ => lifted os started H enc)

theorem proved : Rows.RaderWalksSaid :=
  over
#print axioms proved
end Go.Proofs.Ytgdadkkiefkimaa.raderWalks
