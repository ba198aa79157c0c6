/- PlanSame: any two plans that fit come to the same, and one takes back what the other one did. For every input; no condition. -/
import Derived.Test.YtmalmijdjhkklaaGreatRows
import Derived.Test.YtmalmijdjhkklaaGreatPlSa
import Derived.Test.YtmalmijdjhkklaaGreatPost
import Derived.Test.YtmalmijdjhkklaaGreatWOpenOpenPOpenU
import Derived.Test.YtmalmijdjhkklaaGreatWRef06ToMs18
import Derived.Test.YtmalmijdjhkklaaGreatFactsplanFits
import Derived.ProofKit
import Derived.OpenShut
set_option linter.unusedVariables false
set_option linter.unusedSimpArgs false
set_option linter.unusedSectionVars false
namespace Go.Proofs.YtmalmijdjhkklaaGreat.planSame
open Go.ChangeShapes Go.WideShapes Go.ChangeAt Go.RowKit
set_option maxRecDepth 100000 in
theorem lifted (os:Os) (started:os.Started) (H:Type) (enc:TypeId×Value→H):
  ReturnsInHanded {} Tryz.checked os 7 .any (Rows.planSameSpec.pre6 enc Tryz.prog Tryz.f7 Rows.planSameRow.domain false) (Rows.planSameSpec.post enc Tryz.prog Tryz.f7 false true false false):=by
 refine returnsInHanded_of_change_sized (C:=Tryz.checked) ownP started (by kernel_rfl) Tryz.func7
  (ChangeSpec.witness6 (enc:=enc) (C:=Tryz.checked) false ⟨#[], #[.agg #[.int .i64 0, .int .i64 0, .int .u64 0, .slice none 0 0], .agg #[.int .i64 0, .int .i64 0, .int .i64 0], .agg #[.int .i64 0, .int .i64 0, .int .i64 0], .slice none 0 0, .bool false],[]⟩ 8 (by kernel_rfl) (by kernel_rfl) (by kernel_rfl) (by kernel_rfl)) ?_
 intro W base args ds gs before hval0 hW hcnd hsz _
 have hval: ∀(j:Nat) t v,Tryz.f7.params[j]? =some t→args[j]? =some v→Value.okWide Tryz.prog W .any base t v:=hval0
 have hW':=hW
 obtain ⟨p,q,hA0,hV,rfl,hfz,hnd⟩:=hW
 have hA:DataW.TrodAll enc Tryz.prog W 0 (fun _=>true) true Tryz.f7.params.toList args.toList ds p:=hA0
 rw [Tryz.params7] at hA hval
 have hsz':(DataW.weightsEach Tryz.prog (Tryz.f7.params.toList ++ Rows.planSameSpec.plain.varTypes Tryz.prog) (ds ++ gs)).all (· ≤reachBytes)=true:=hsz
 rw [Tryz.params7] at hsz'
 obtain ⟨v0,vs0,d0,ds0,p0,q0,hargs,rfl,rfl,h0,r0⟩:=trodAll_cons hA
 obtain ⟨v1,vs1,d1,ds1,p1,q1,hargs1,rfl,rfl,h1,r1⟩:=trodAll_cons r0
 obtain ⟨v2,vs2,d2,ds2,p2,q2,hargs2,rfl,rfl,h2,r2⟩:=trodAll_cons r1
 obtain ⟨v3,vs3,d3,ds3,p3,q3,hargs3,rfl,rfl,h3,r3⟩:=trodAll_cons r2
 obtain ⟨v4,vs4,d4,ds4,p4,q4,hargs4,rfl,rfl,h4,r4⟩:=trodAll_cons r3
 subst hargs1
 subst hargs2
 subst hargs3
 subst hargs4
 obtain ⟨rfl,rfl,rfl⟩:=trodAll_nil r4
 obtain rfl:args= #[v0,v1,v2,v3,v4]:=by cases args;simp_all
 obtain ⟨rfl,rfl⟩:=trodVars_none hV
 obtain ⟨b4,rfl,rfl,rfl⟩:=open_bool Tryz.underlying4 (hval 4 4 v4 rfl rfl) h4
 have h0k:=h0
 obtain ⟨cs0,rfl,_⟩:=okWide_struct Tryz.underlying25 (hval 0 25 v0 rfl rfl)
 obtain ⟨fuel0,h0⟩:=h0
 obtain ⟨kind0,kk0,pp0,A0,c0,es0,hcs0,_,_,g00,g10,hl10,hl20,hR0,hE0⟩:=zNo (y:=(d0,p0)) h0 (fun k hk=>by
  have:=List.all_eq_true.1 hsz' k (DataW.weights_mem_each (j:=0) rfl rfl k hk)
  simpa using this)
 obtain rfl:cs0= #[.int .i64 kind0, .int .i64 kk0, .int .u64 pp0, .slice A0 es0.length c0]:=by
  cases cs0;simpa [Value.cells] using hcs0
 have h1k:=h1
 obtain ⟨cs1,rfl,_⟩:=okWide_struct Tryz.underlying27 (hval 1 27 v1 rfl rfl)
 obtain ⟨fuel1,h1⟩:=h1
 obtain ⟨K1,N1,M1,hcs1,hP1⟩:=zNl (y:=(d1,p1)) h1
 obtain rfl:cs1= #[.int .i64 K1, .int .i64 N1, .int .i64 M1]:=by
  cases cs1;simpa [Value.cells] using hcs1
 have h2k:=h2
 obtain ⟨cs2,rfl,_⟩:=okWide_struct Tryz.underlying27 (hval 2 27 v2 rfl rfl)
 obtain ⟨fuel2,h2⟩:=h2
 obtain ⟨K2,N2,M2,hcs2,hP2⟩:=zNl (y:=(d2,p2)) h2
 obtain rfl:cs2= #[.int .i64 K2, .int .i64 N2, .int .i64 M2]:=by
  cases cs2;simpa [Value.cells] using hcs2
 have h3k:=h3
 obtain ⟨fuel3,h3⟩:=h3
 obtain ⟨A3,c3,L3,hcs3,hl33,hLR3,hLU3,hAL3⟩:=zNq (y:=(d3,p3)) h3 (fun k hk=>by
  have:=List.all_eq_true.1 hsz' k (DataW.weights_mem_each (j:=3) rfl rfl k hk)
  simpa using this)
 obtain rfl:v3= .slice A3 L3.length c3:=by
  obtain ⟨a',n',c',rfl⟩:=okWide_slice Tryz.underlying54 (hval 3 54 v3 rfl rfl)
  simpa [Value.cells] using hcs3
 clear hA0 hval0 hsz hsz' hcs0 h0 hcs1 h1 hcs2 h2 hcs3 h3
 simp only [List.append_nil] at hW'
 have hlt0: ∀x ∈ p0,x.block<W.heap.size:=fun x hx=>hW'.lt x (by simp [hx])
 have hlt1: ∀x ∈ p1,x.block<W.heap.size:=fun x hx=>hW'.lt x (by simp [hx])
 have hlt2: ∀x ∈ p2,x.block<W.heap.size:=fun x hx=>hW'.lt x (by simp [hx])
 have hlt3: ∀x ∈ p3,x.block<W.heap.size:=fun x hx=>hW'.lt x (by simp [hx])
 refine (zOp W A0 c0 kind0 kk0 pp0 es0 K1 N1 M1 K2 N2 M2 A3 c3 L3 b4 ⟨g00,g10,hl10,hl20,hR0,hE0⟩ hP1 hP2 ⟨hl33,hLU3,hLR3,hAL3⟩ ).mono fun e W' ⟨he,hg⟩=>?_
 subst he
 exact ⟨_,rfl,zO0 (pa:=p0 ++ (p1 ++ (p2 ++ (p3 ++ ([]))))) (pv:= []) hW' (fun _ _ _=>(trodAll_cons_mk (shut_bool Tryz.underlying4 _) trodAll_mk0))
  (fun sp hsp=>(trodAll_cons_mk (WideElems.Trod_stays zKj (by kernel_rfl) (of_decide_eq_true (by kernel_rfl)) h0k (fun x hx=>hg.same (hlt0 x hx)) (fun x hx=>hsp x (by simp [hx]))) (trodAll_cons_mk (WideElems.Trod_stays zKj (by kernel_rfl) (of_decide_eq_true (by kernel_rfl)) h1k (fun x hx=>hg.same (hlt1 x hx)) (fun x hx=>hsp x (by simp [hx]))) (trodAll_cons_mk (WideElems.Trod_stays zKj (by kernel_rfl) (of_decide_eq_true (by kernel_rfl)) h2k (fun x hx=>hg.same (hlt2 x hx)) (fun x hx=>hsp x (by simp [hx]))) (trodAll_cons_mk (WideElems.Trod_stays zKj (by kernel_rfl) (of_decide_eq_true (by kernel_rfl)) h3k (fun x hx=>hg.same (hlt3 x hx)) (fun x hx=>hsp x (by simp [hx]))) (trodAll_cons_mk (shut_bool Tryz.underlying4 _) trodAll_mk0)))))) (fun _ _=>rfl) (by simp)
  hg (ok_one (by kernel_rfl) rfl (okWide_bool_mk Tryz.underlying4 _))⟩
theorem closed:joinedFacts Tryz.prog 7 Tryz.f7 Rows.planSameSpec Rows.planSameRow=true:=by
 unfold joinedFacts
 rw [zKj,zLz,zIU,zGk,zKB,zLq]
 kernel_rfl
theorem named:Tryz.prog.funcNamed Rows.planSameRow.func=some 7:=by kernel_rfl
theorem over:Rows.planSameRow.holds Tryz.pinned (OpenSpec.ofChange Rows.planSameSpec):=
 OpenClaim.holds_of_wide 7 Tryz.f7 rfl rfl rfl rfl rfl rfl rfl ⟨rfl,rfl,rfl,rfl,rfl⟩ rfl rfl rfl rfl rfl named Tryz.func7 closed
  (of_decide_eq_true (by kernel_rfl)) (by unfold Func.isWrapper;first|(rw [if_pos (by decide +kernel)];kernel_rfl)|(rw [if_neg (by decide +kernel)];exact ⟨rfl,rfl⟩))
  (fun os started H enc _=>lifted os started H enc)
theorem proved:Rows.PlanSameSaid:=
 over
#print axioms proved
end Go.Proofs.YtmalmijdjhkklaaGreat.planSame