/- ConvolveRound: Cyclic answers the product round and round, by every way that fits, whatever the cache, or which error; it is the straight one, folded. For every input; no condition. -/
import Derived.Test.YtmalmijdjhkklaaGreatRows
import Derived.Test.YtmalmijdjhkklaaGreatCvRo
import Derived.Test.YtmalmijdjhkklaaGreatPost
import Derived.Test.YtmalmijdjhkklaaGreatW155
import Derived.Test.YtmalmijdjhkklaaGreatW39
import Derived.Test.YtmalmijdjhkklaaGreatFactsplanFits
import Derived.ProofKit
import Derived.OpenShut
set_option linter.unusedVariables false
set_option linter.unusedSimpArgs false
set_option maxRecDepth 100000
set_option maxHeartbeats 16000000
namespace Go.Proofs.YtmalmijdjhkklaaGreat.convolveRound
open Go.ChangeShapes Go.WideShapes Go.ChangeAt Go.RowKit
theorem lifted (os:Os) (started:os.Started) (H:Type) (enc:TypeId×Value→H):
  ReturnsInHanded {} Tryz.checked os 11 .any (Rows.convolveRoundSpec.pre6 enc Tryz.prog Tryz.f11 Rows.convolveRoundRow.domain false) (Rows.convolveRoundSpec.post enc Tryz.prog Tryz.f11 false true false false):=by
 refine returnsInHanded_of_change_sized (C:=Tryz.checked) ownP started (by kernel_rfl) Tryz.func11
  (ChangeSpec.witness6 (enc:=enc) (C:=Tryz.checked) false ⟨#[], #[.agg #[.int .i64 0, .int .i64 0, .int .u64 0, .slice none 0 0], .slice none 0 0, .slice none 0 0, .int .i64 0, .int .i64 0],[]⟩ 8 (by kernel_rfl) (by kernel_rfl) (by kernel_rfl) (by kernel_rfl)) ?_
 intro W base args ds gs before hval0 hW hcnd hsz _
 have hval: ∀(j:Nat) t v,Tryz.f11.params[j]? =some t→args[j]? =some v→Value.okWide Tryz.prog W .any base t v:=hval0
 have hW':=hW
 obtain ⟨p,q,hA0,hV,rfl,hfz,hnd⟩:=hW
 have hA:DataW.TrodAll enc Tryz.prog W 0 (fun _=>true) true Tryz.f11.params.toList args.toList ds p:=hA0
 rw [Tryz.params11] at hA hval
 have hsz':(DataW.weightsEach Tryz.prog (Tryz.f11.params.toList ++ Rows.convolveRoundSpec.plain.varTypes Tryz.prog) (ds ++ gs)).all (· ≤reachBytes)=true:=hsz
 rw [Tryz.params11] at hsz'
 obtain ⟨v0,vs0,d0,ds0,p0,q0,hargs,rfl,rfl,h0,r0⟩:=trodAll_cons hA
 obtain ⟨v1,vs1,d1,ds1,p1,q1,hargs1,rfl,rfl,h1,r1⟩:=trodAll_cons r0
 obtain ⟨v2,vs2,d2,ds2,p2,q2,hargs2,rfl,rfl,h2,r2⟩:=trodAll_cons r1
 obtain ⟨v3,vs3,d3,ds3,p3,q3,hargs3,rfl,rfl,h3,r3⟩:=trodAll_cons r2
 obtain ⟨v4,vs4,d4,ds4,p4,q4,hargs4,rfl,rfl,h4,r4⟩:=trodAll_cons r3
 subst hargs1
 subst hargs2
 subst hargs3
 subst hargs4
 obtain ⟨rfl,rfl,rfl⟩:=trodAll_nil r4
 obtain rfl:args= #[v0,v1,v2,v3,v4]:=by cases args;simp_all
 obtain ⟨rfl,rfl⟩:=trodVars_none hV
 obtain ⟨x3,rfl,rfl,rfl,w3⟩:=open_int Tryz.underlying3 (hval 3 3 v3 rfl rfl) h3
 obtain ⟨x4,rfl,rfl,rfl,w4⟩:=open_int Tryz.underlying3 (hval 4 3 v4 rfl rfl) h4
 have h0k:=h0
 obtain ⟨cs0,rfl,_⟩:=okWide_struct Tryz.underlying25 (hval 0 25 v0 rfl rfl)
 obtain ⟨fuel0,h0⟩:=h0
 obtain ⟨kind0,kk0,pp0,A0,c0,es0,hcs0,_,_,g00,g10,hl10,hl20,hR0,hE0⟩:=zNo (y:=(d0,p0)) h0 (fun k hk=>by
  have:=List.all_eq_true.1 hsz' k (DataW.weights_mem_each (j:=0) rfl rfl k hk)
  simpa using this)
 obtain rfl:cs0= #[.int .i64 kind0, .int .i64 kk0, .int .u64 pp0, .slice A0 es0.length c0]:=by
  cases cs0;simpa [Value.cells] using hcs0
 have h1k:=h1
 obtain ⟨fuel1,h1⟩:=h1
 obtain ⟨A1,c1,L1,hcs1,hl31,hLR1,hLU1,hAL1⟩:=zNq (y:=(d1,p1)) h1 (fun k hk=>by
  have:=List.all_eq_true.1 hsz' k (DataW.weights_mem_each (j:=1) rfl rfl k hk)
  simpa using this)
 obtain rfl:v1= .slice A1 L1.length c1:=by
  obtain ⟨a',n',c',rfl⟩:=okWide_slice Tryz.underlying54 (hval 1 54 v1 rfl rfl)
  simpa [Value.cells] using hcs1
 have h2k:=h2
 obtain ⟨fuel2,h2⟩:=h2
 obtain ⟨A2,c2,L2,hcs2,hl32,hLR2,hLU2,hAL2⟩:=zNq (y:=(d2,p2)) h2 (fun k hk=>by
  have:=List.all_eq_true.1 hsz' k (DataW.weights_mem_each (j:=2) rfl rfl k hk)
  simpa using this)
 obtain rfl:v2= .slice A2 L2.length c2:=by
  obtain ⟨a',n',c',rfl⟩:=okWide_slice Tryz.underlying54 (hval 2 54 v2 rfl rfl)
  simpa [Value.cells] using hcs2
 clear hA0 hval0 hsz hsz' hcs0 h0 hcs1 h1 hcs2 h2
 simp only [List.append_nil] at hW'
 have hlt0: ∀x ∈ p0,x.block<W.heap.size:=fun x hx=>hW'.lt x (by simp [hx])
 have hlt1: ∀x ∈ p1,x.block<W.heap.size:=fun x hx=>hW'.lt x (by simp [hx])
 have hlt2: ∀x ∈ p2,x.block<W.heap.size:=fun x hx=>hW'.lt x (by simp [hx])
 have wf3:=wf_i64 w3
 have wf4:=wf_i64 w4
 refine (zXX W A0 c0 kind0 kk0 pp0 es0 A1 c1 L1 A2 c2 L2 x3 x4 ⟨g00,g10,hl10,hl20,hR0,hE0⟩ ⟨hl31,hLU1,hLR1,hAL1⟩ ⟨hl32,hLU2,hLR2,hAL2⟩ wf3.1 wf3.2 wf4.1 wf4.2).mono fun e W' ⟨he,hg⟩=>?_
 subst he
 exact ⟨_,rfl,zO0 (pa:=p0 ++ (p1 ++ (p2 ++ ([])))) (pv:= []) hW' (fun _ _ _=>(trodAll_cons_mk (shut_bool Tryz.underlying4 _) trodAll_mk0))
  (fun sp hsp=>(trodAll_cons_mk (WideElems.Trod_stays zKj (by kernel_rfl) (of_decide_eq_true (by kernel_rfl)) h0k (fun x hx=>hg.same (hlt0 x hx)) (fun x hx=>hsp x (by simp [hx]))) (trodAll_cons_mk (WideElems.Trod_stays zKj (by kernel_rfl) (of_decide_eq_true (by kernel_rfl)) h1k (fun x hx=>hg.same (hlt1 x hx)) (fun x hx=>hsp x (by simp [hx]))) (trodAll_cons_mk (WideElems.Trod_stays zKj (by kernel_rfl) (of_decide_eq_true (by kernel_rfl)) h2k (fun x hx=>hg.same (hlt2 x hx)) (fun x hx=>hsp x (by simp [hx]))) (trodAll_cons_mk (shut_int Tryz.underlying3 w3) (trodAll_cons_mk (shut_int Tryz.underlying3 w4) trodAll_mk0)))))) (fun _ _=>rfl) (by simp)
  hg (ok_one (by kernel_rfl) rfl (okWide_bool_mk Tryz.underlying4 _))⟩
theorem closed:joinedFacts Tryz.prog 11 Tryz.f11 Rows.convolveRoundSpec Rows.convolveRoundRow=true:=by
 unfold joinedFacts
 rw [zKj,zLz,zIU,zGk,zKB,zLq]
 kernel_rfl
theorem named:Tryz.prog.funcNamed Rows.convolveRoundRow.func=some 11:=by kernel_rfl
theorem over:Rows.convolveRoundRow.holds Tryz.pinned (OpenSpec.ofChange Rows.convolveRoundSpec):=
 OpenClaim.holds_of_wide 11 Tryz.f11 rfl rfl rfl rfl rfl rfl rfl ⟨rfl,rfl,rfl,rfl,rfl⟩ rfl rfl rfl rfl rfl named Tryz.func11 closed
  (of_decide_eq_true (by kernel_rfl)) (by unfold Func.isWrapper;first|(rw [if_pos (by decide +kernel)];kernel_rfl)|(rw [if_neg (by decide +kernel)];exact ⟨rfl,rfl⟩))
  (fun os started H enc _=>lifted os started H enc)
theorem proved:Rows.ConvolveRoundSaid:=
 over
#print axioms proved
end Go.Proofs.YtmalmijdjhkklaaGreat.convolveRound