/- ConvolveFolds: Fold answers the sums that the document says, of every source of a field, list and length. For every input; no condition. -/
import Derived.Test.YtmalmijdjhkklaaGreatRows
import Derived.Test.YtmalmijdjhkklaaGreatCvFo
import Derived.Test.YtmalmijdjhkklaaGreatPost
import Derived.Test.YtmalmijdjhkklaaGreatWOpenOpenU
import Derived.Test.YtmalmijdjhkklaaGreatWRef06ToMs21
import Derived.Test.YtmalmijdjhkklaaGreatFactsplanFits
import Derived.ProofKit
import Derived.OpenShut
set_option linter.unusedVariables false
set_option linter.unusedSimpArgs false
set_option linter.unusedSectionVars false
namespace Go.Proofs.YtmalmijdjhkklaaGreat.convolveFolds
open Go.ChangeShapes Go.WideShapes Go.ChangeAt Go.RowKit
set_option maxRecDepth 100000 in
theorem lifted (os:Os) (started:os.Started) (H:Type) (enc:TypeId×Value→H):
  ReturnsInHanded {} Tryz.checked os 10 .any (Rows.convolveFoldsSpec.pre6 enc Tryz.prog Tryz.f10 Rows.convolveFoldsRow.domain false) (Rows.convolveFoldsSpec.post enc Tryz.prog Tryz.f10 false true false false):=by
 refine returnsInHanded_of_change_sized (C:=Tryz.checked) ownP started (by kernel_rfl) Tryz.func10
  (ChangeSpec.witness6 (enc:=enc) (C:=Tryz.checked) false ⟨#[], #[.agg #[.int .i64 0, .int .i64 0, .int .u64 0, .slice none 0 0], .slice none 0 0, .int .i64 0],[]⟩ 8 (by kernel_rfl) (by kernel_rfl) (by kernel_rfl) (by kernel_rfl)) ?_
 intro W base args ds gs before hval0 hW hcnd hsz _
 have hval: ∀(j:Nat) t v,Tryz.f10.params[j]? =some t→args[j]? =some v→Value.okWide Tryz.prog W .any base t v:=hval0
 have hW':=hW
 obtain ⟨p,q,hA0,hV,rfl,hfz,hnd⟩:=hW
 have hA:DataW.TrodAll enc Tryz.prog W 0 (fun _=>true) true Tryz.f10.params.toList args.toList ds p:=hA0
 rw [Tryz.params10] at hA hval
 have hsz':(DataW.weightsEach Tryz.prog (Tryz.f10.params.toList ++ Rows.convolveFoldsSpec.plain.varTypes Tryz.prog) (ds ++ gs)).all (· ≤reachBytes)=true:=hsz
 rw [Tryz.params10] at hsz'
 obtain ⟨v0,vs0,d0,ds0,p0,q0,hargs,rfl,rfl,h0,r0⟩:=trodAll_cons hA
 obtain ⟨v1,vs1,d1,ds1,p1,q1,hargs1,rfl,rfl,h1,r1⟩:=trodAll_cons r0
 obtain ⟨v2,vs2,d2,ds2,p2,q2,hargs2,rfl,rfl,h2,r2⟩:=trodAll_cons r1
 subst hargs1
 subst hargs2
 obtain ⟨rfl,rfl,rfl⟩:=trodAll_nil r2
 obtain rfl:args= #[v0,v1,v2]:=by cases args;simp_all
 obtain ⟨rfl,rfl⟩:=trodVars_none hV
 obtain ⟨x2,rfl,rfl,rfl,w2⟩:=open_int Tryz.underlying3 (hval 2 3 v2 rfl rfl) h2
 have h0k:=h0
 obtain ⟨cs0,rfl,_⟩:=okWide_struct Tryz.underlying25 (hval 0 25 v0 rfl rfl)
 obtain ⟨fuel0,h0⟩:=h0
 obtain ⟨kind0,kk0,pp0,A0,c0,es0,hcs0,_,_,g00,g10,hl10,hl20,hR0,hE0⟩:=zNo (y:=(d0,p0)) h0 (fun k hk=>by
  have:=List.all_eq_true.1 hsz' k (DataW.weights_mem_each (j:=0) rfl rfl k hk)
  simpa using this)
 obtain rfl:cs0= #[.int .i64 kind0, .int .i64 kk0, .int .u64 pp0, .slice A0 es0.length c0]:=by
  cases cs0;simpa [Value.cells] using hcs0
 have h1k:=h1
 obtain ⟨fuel1,h1⟩:=h1
 obtain ⟨A1,c1,L1,hcs1,hl31,hLR1,hLU1,hAL1⟩:=zNq (y:=(d1,p1)) h1 (fun k hk=>by
  have:=List.all_eq_true.1 hsz' k (DataW.weights_mem_each (j:=1) rfl rfl k hk)
  simpa using this)
 obtain rfl:v1= .slice A1 L1.length c1:=by
  obtain ⟨a',n',c',rfl⟩:=okWide_slice Tryz.underlying54 (hval 1 54 v1 rfl rfl)
  simpa [Value.cells] using hcs1
 clear hA0 hval0 hsz hsz' hcs0 h0 hcs1 h1
 simp only [List.append_nil] at hW'
 have hlt0: ∀x ∈ p0,x.block<W.heap.size:=fun x hx=>hW'.lt x (by simp [hx])
 have hlt1: ∀x ∈ p1,x.block<W.heap.size:=fun x hx=>hW'.lt x (by simp [hx])
 have wf2:=wf_i64 w2
 refine (zCl W A0 c0 kind0 kk0 pp0 es0 A1 c1 L1 x2 ⟨g00,g10,hl10,hl20,hR0,hE0⟩ ⟨hl31,hLU1,hLR1,hAL1⟩ wf2.1 wf2.2).mono fun e W' ⟨he,hg⟩=>?_
 subst he
 exact ⟨_,rfl,zO0 (pa:=p0 ++ (p1 ++ ([]))) (pv:= []) hW' (fun _ _ _=>(trodAll_cons_mk (shut_bool Tryz.underlying4 _) trodAll_mk0))
  (fun sp hsp=>(trodAll_cons_mk (WideElems.Trod_stays zKj (by kernel_rfl) (of_decide_eq_true (by kernel_rfl)) h0k (fun x hx=>hg.same (hlt0 x hx)) (fun x hx=>hsp x (by simp [hx]))) (trodAll_cons_mk (WideElems.Trod_stays zKj (by kernel_rfl) (of_decide_eq_true (by kernel_rfl)) h1k (fun x hx=>hg.same (hlt1 x hx)) (fun x hx=>hsp x (by simp [hx]))) (trodAll_cons_mk (shut_int Tryz.underlying3 w2) trodAll_mk0)))) (fun _ _=>rfl) (by simp)
  hg (ok_one (by kernel_rfl) rfl (okWide_bool_mk Tryz.underlying4 _))⟩
theorem closed:joinedFacts Tryz.prog 10 Tryz.f10 Rows.convolveFoldsSpec Rows.convolveFoldsRow=true:=by
 unfold joinedFacts
 rw [zKj,zLz,zIU,zGk,zKB,zLq]
 kernel_rfl
theorem named:Tryz.prog.funcNamed Rows.convolveFoldsRow.func=some 10:=by kernel_rfl
theorem over:Rows.convolveFoldsRow.holds Tryz.pinned (OpenSpec.ofChange Rows.convolveFoldsSpec):=
 OpenClaim.holds_of_wide 10 Tryz.f10 rfl rfl rfl rfl rfl rfl rfl ⟨rfl,rfl,rfl,rfl,rfl⟩ rfl rfl rfl rfl rfl named Tryz.func10 closed
  (of_decide_eq_true (by kernel_rfl)) (by unfold Func.isWrapper;first|(rw [if_pos (by decide +kernel)];kernel_rfl)|(rw [if_neg (by decide +kernel)];exact ⟨rfl,rfl⟩))
  (fun os started H enc _=>lifted os started H enc)
theorem proved:Rows.ConvolveFoldsSaid:=
 over
#print axioms proved
end Go.Proofs.YtmalmijdjhkklaaGreat.convolveFolds