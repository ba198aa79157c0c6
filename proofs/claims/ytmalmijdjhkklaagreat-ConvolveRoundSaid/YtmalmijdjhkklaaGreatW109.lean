/- plan.of: the plans of a way that come. -/
import Derived.Test.YtmalmijdjhkklaaGreatW96
import Derived.Test.YtmalmijdjhkklaaGreatKeys
import Derived.Test.YtmalmijdjhkklaaGreatW90
import Derived.Test.YtmalmijdjhkklaaGreatW25
import Derived.RangeFuncNested
import Derived.RangeFuncBound
import Derived.RangeFuncCalls
import Derived.RangeFuncLeaves
import Derived.Shelf.RegionOpen
import Derived.WalkKit
import Derived.OwnWalkIn
import Derived.TacticsInMore
import Derived.LoopNIn
import Derived.LoopIn
import Derived.Test.YtmalmijdjhkklaaGreatRngF
set_option linter.unusedVariables false
set_option linter.unusedSimpArgs false
set_option maxRecDepth 100000
set_option maxHeartbeats 16000000
namespace Go.Proofs.YtmalmijdjhkklaaGreat
open Go.RowKit
section
attribute [local go_sem] Oper.semAt_some
abbrev PlT:=Int×Int×Int
noncomputable def of4 (p n:Int) (a:Nat):List PlT:=((List.range a).filter fun (i:Nat)=>decide (2≤i∧fitI p 4 n (i:Int)=0)).map fun (i:Nat)=>((4:Int),n,(i:Int))
noncomputable def one (p K N A:Int):List PlT:=if fitI p K N A=0 then [(K,N,A)] else []
noncomputable def ofL (p n k:Int):List PlT:=if k=4 then of4 p n n.toNat else if k=5 then one p k n (rpad n) else if k=6 then one p k n (cpad n) else one p k n 0
theorem zMM (p n:Int) (a:Nat):of4 p n (a+1)=of4 p n a ++ (if 2≤a∧fitI p 4 n (a:Int)=0 then [((4:Int),n,(a:Int))] else []):=by
 unfold of4
 rw [List.range_succ,List.filter_append,List.map_append]
 congr 1
 by_cases h:2≤a∧fitI p 4 n (a:Int)=0
 ·rw [if_pos h];simp [h]
 ·rw [if_neg h];simp [h]
theorem zMK (p n:Int) (a:Nat) (h:a≤2):of4 p n a= []:=by
 unfold of4
 rw [List.map_eq_nil_iff,List.filter_eq_nil_iff]
 intro i hi
 have:=List.mem_range.1 hi
 simp only [decide_eq_true_eq]
 omega
theorem zML (p n:Int) (a b:Nat) (h:a≤b):of4 p n a <+:of4 p n b:=by
 induction b with
 | zero=>rw [show a=0 by omega];exact List.prefix_refl _
 | succ b ih=>
  rcases Nat.lt_or_ge b a with h1|h1
  ·rw [show a=b+1 by omega];exact List.prefix_refl _
  ·rw [zMM]
   exact (ih h1).trans (List.prefix_append _ _)
structure PlIt (v:Value) (p g n k:Int) (bk bn bf:Nat) (J:List PlT→World→Prop):Prop where
 keep: ∀s W W',J s W→Below W.heap.size W W'→J s W'
 fd: ∀s W,J s W→Fd W W.heap.size v p g
 ck: ∀s W,J s W→W.cell? ⟨bk,0,none⟩=some (.int .i64 k)
 cn: ∀s W,J s W→W.cell? ⟨bn,0,none⟩=some (.int .i64 n)
 cf: ∀s W,J s W→W.cell? ⟨bf,0,none⟩=some v
theorem zOs (K N A:Int):((#[.int .i64 K, .int .i64 N, .int .i64 A]:Array Value).all fun v=>v.oneCell')=true:=by simp;exact ⟨rfl,rfl,rfl⟩
def zA9 (m:Nat) (l:Nat) (L:List PlT) (J Jx:List PlT→World→Prop):Prop:=
 ∀pre K N A W,J pre W→(pre ++ [(K,N,A)]) <+:L→YieldAt Fence.wide m Tryz.prog l #[.agg #[.int .i64 K, .int .i64 N, .int .i64 A]] W fun e W'=>
  (e= .returned (.bool true)∧J (pre ++ [(K,N,A)]) W')∨(e= .returned (.bool false)∧Jx (pre ++ [(K,N,A)]) W')
theorem zME (m:Nat) (hm:1≤m) (l:Nat) (v:Value) (p g n k:Int) (bk bn bf:Nat) (J Jx:List PlT→World→Prop) (H:PlIt v p g n k bk bn bf J) (hn:1≤n∧n≤1024) (hk:0≤k∧k≤6) (k4:k<4)
  (hY:zA9 (m-1) l (one p k n 0) J Jx) (W:World) (h0:J [] W):
  CallsIn Fence.wide m Tryz.prog 113 #[.func (.yield l) #[] #[], .pointer (some ⟨bk,0,none⟩), .pointer (some ⟨bn,0,none⟩), .pointer (some ⟨bf,0,none⟩)] W fun e W'=>(∃v,e= .returned v)∧(J (one p k n 0) W'∨ ∃pre,pre <+:one p k n 0∧Jx pre W'):=by
 have t4:(k == 4)=false:=by rw [beq_eq_false_iff_ne];omega
 have t5:(k == 5)=false:=by rw [beq_eq_false_iff_ne];omega
 have t6:(k == 6)=false:=by rw [beq_eq_false_iff_ne];omega
 have ck:=H.ck _ _ h0
 have cn:=H.cn _ _ h0
 have cf:=H.cf _ _ h0
 have R1:=zy (lay1 W 36 #[.int .i64 k, .int .i64 n, .int .i64 0])
 have hJ1:=H.keep _ _ _ h0 R1.out.2
 have cf1:=H.cf _ _ hJ1
 have HF:=zy (zOe (H.fd _ _ hJ1) k n 0 (by omega) (by omega) (by omega) (by omega) (by omega) (by omega))
 have HL:Hid (one p k n 0=if fitI p k n 0=0 then [(k,n,0)] else []):=zy rfl
 have HJ1:=zy hJ1
 have HK:=zy H.keep
 have HYl:=zy hY
 obtain ⟨L,hL⟩: ∃L,L=one p k n 0:=⟨_,rfl⟩
 rw [←hL] at HL HYl ⊢
 obtain ⟨e,he⟩: ∃e,e=fitI p k n 0:=⟨_,rfl⟩
 rw [←he] at HF HL
 clear hL he hJ1 H hY h0
 have hF14:Fence.wide.fn 16:=trivial
 have e14: ∀args w,(callFunc 16 args).run Tryz.prog w= .ok (.enter 16 args) w:=enters_of Tryz.func16 (by kernel_rfl) rfl
 by_cases hz:e=0
 ·subst hz
  have HL2:Hid (L= [(k,n,0)]):=zy (by rw [HL.out,if_pos rfl])
  refine callsIn_of_wp Tryz.func113 rfl trivial ?_ rfl
  simp only [Tryz.ntmps113,List.size_toArray,List.length_cons,List.length_nil,Nat.reduceAdd,Nat.reduceSub,Array.replicate_succ,Array.replicate_zero,List.push_toArray,List.append_toArray,List.nil_append,List.cons_append]
  gi_wp2_with (gi_at_call 16;refine (callsIn_wide.2 HF.out).mono ?_;rintro r w2 ⟨rfl,hB2⟩;have hJ2:=HK.out _ _ _ HJ1.out hB2;have R2:=zy (R1.out.1.keep hB2);have c0:=R2.out.cell (i:=0) (v:= .int .i64 k) rfl;have c1:=R2.out.cell (i:=1) (v:= .int .i64 n) rfl;have c2:=R2.out.cell (i:=2) (v:= .int .i64 0) rfl;obtain ⟨fn,tmps,assign,body,hy,hR⟩:=HYl.out [] k n 0 _ hJ2 (by rw [HL2.out];exact List.prefix_refl _))
  refine hR.mono ?_
  rintro r w3 (⟨rfl,hJ3⟩|⟨rfl,hJ3⟩)
  ·gi_wp2
   go_end0
   exact ⟨⟨_,rfl⟩, .inl (by rw [HL2.out];exact hJ3)⟩
  ·gi_wp2
   go_end0
   exact ⟨⟨_,rfl⟩, .inr ⟨_,by rw [HL2.out];exact List.prefix_refl _,hJ3⟩⟩
 ·have tz:(e == 0)=false:=by rw [beq_eq_false_iff_ne];exact hz
  have HL2:Hid (L= []):=zy (by rw [HL.out,if_neg hz])
  refine callsIn_of_wp Tryz.func113 rfl trivial ?_ rfl
  simp only [Tryz.ntmps113,List.size_toArray,List.length_cons,List.length_nil,Nat.reduceAdd,Nat.reduceSub,Array.replicate_succ,Array.replicate_zero,List.push_toArray,List.append_toArray,List.nil_append,List.cons_append]
  gi_wp2_with (gi_at_call 16;refine (callsIn_wide.2 HF.out).mono ?_;rintro r w2 ⟨rfl,hB2⟩;have hJ2:=HK.out _ _ _ HJ1.out hB2)
  go_end0
  exact ⟨⟨_,rfl⟩, .inl (by rw [HL2.out];exact hJ2)⟩
theorem zMD (m:Nat) (hm:1≤m) (l:Nat) (v:Value) (p g n:Int) (bk bn bf:Nat) (J Jx:List PlT→World→Prop) (H:PlIt v p g n 4 bk bn bf J) (hn:1≤n∧n≤1024)
  (hY:zA9 (m-1) l (of4 p n n.toNat) J Jx) (W:World) (h0:J [] W):
  CallsIn Fence.wide m Tryz.prog 113 #[.func (.yield l) #[] #[], .pointer (some ⟨bk,0,none⟩), .pointer (some ⟨bn,0,none⟩), .pointer (some ⟨bf,0,none⟩)] W fun e W'=>(∃v,e= .returned v)∧(J (of4 p n n.toNat) W'∨ ∃pre,pre <+:of4 p n n.toNat∧Jx pre W'):=by
 have ck:=H.ck _ _ h0
 obtain ⟨N,rfl⟩:=Int.eq_ofNat_of_zero_le (show 0≤n by omega)
 rw [Int.toNat_natCast] at hY ⊢
 have HI:=zy H
 have HF:=zy (fun s W (h:J s W) (A:Int) (h1:0≤A) (h2:A≤4096)=>zOe (H.fd _ _ h) 4 (N:Int) A (by omega) (by omega) (by omega) (by omega) (by omega) (by omega))
 have HS:=zy (zMM p (N:Int))
 have HP:=zy (zML p (N:Int))
 have H0:Hid (∀a,a≤2→of4 p (N:Int) a= []):=zy (zMK p (N:Int))
 have HYl:=zy hY
 have HJ0:Hid (J (of4 p (N:Int) 2) W):=zy (by rw [H0.out 2 (by omega)];exact h0)
 obtain ⟨fi,hfi⟩: ∃fi:Int→Int,fi=fun A=>fitI p 4 (N:Int) A:=⟨_,rfl⟩
 have HF2:Hid (∀s W (h:J s W) (A:Int) (h1:0≤A) (h2:A≤4096),Calls Tryz.prog 16 #[v, .agg #[.int .i64 4, .int .i64 (N:Int), .int .i64 A]] W fun e w'=>e= .returned (.int .i64 (fi A))∧Below W.heap.size W w'):=by rw [hfi];exact HF
 have HS2:Hid (∀a:Nat,of4 p (N:Int) (a+1)=of4 p (N:Int) a ++ (if 2≤a∧fi (a:Int)=0 then [((4:Int),(N:Int),(a:Int))] else [])):=by rw [hfi];exact HS
 obtain ⟨o4,ho⟩: ∃o4,o4=of4 p (N:Int):=⟨_,rfl⟩
 rw [←ho] at HS2 HP H0 HYl HJ0 ⊢
 clear hfi ho HF HS hY h0 H
 have hF14:Fence.wide.fn 16:=trivial
 have e14: ∀args w,(callFunc 16 args).run Tryz.prog w= .ok (.enter 16 args) w:=enters_of Tryz.func16 (by kernel_rfl) rfl
 refine callsIn_of_wp Tryz.func113 rfl trivial ?_ rfl
 simp only [Tryz.ntmps113,List.size_toArray,List.length_cons,List.length_nil,Nat.reduceAdd,Nat.reduceSub,Array.replicate_succ,Array.replicate_zero,List.push_toArray,List.append_toArray,List.nil_append,List.cons_append]
 gi_wp2
 gi_loopw [5] (fun X wr=> ∃a:Nat,X= .int .i64 a∧2≤a∧(a≤N∨a=2)∧Hid (J (o4 a) wr)) (fun X _=>N-(intOf X).toNat)
 case atStart=>exact ⟨2,rfl,by omega,by omega,HJ0⟩
 case round=>
  clear ck
  obtain ⟨a,rfl,ha2,haN,hJa⟩:=hrel
  have ck:=HI.out.ck _ _ hJa.out
  have cn:=HI.out.cn _ _ hJa.out
  have cf:=HI.out.cf _ _ hJa.out
  by_cases hlt:a<N
  ·have R1:=zy (lay1 wr 36 #[.int .i64 4, .int .i64 (N:Int), .int .i64 (a:Int)])
   have HJ1:=zy (HI.out.keep _ _ _ hJa.out R1.out.2)
   have cf1:=HI.out.cf _ _ HJ1.out
   have HFa:=zy (HF2.out _ _ HJ1.out (a:Int) (by omega) (by omega))
   have HSa:=zy (HS2.out a)
   have HPa:=zy (HP.out (a+1) N (by omega))
   have hm1:Hid (∀W',J (o4 a) W'→J (o4 a ++ []) W'):=zy (fun W' h=>by rw [List.append_nil];exact h)
   obtain ⟨e,he⟩: ∃e,e=fi (a:Int):=⟨_,rfl⟩
   rw [←he] at HFa HSa
   clear he
   by_cases hz:e=0
   ·subst hz
    rw [if_pos ⟨ha2,rfl⟩] at HSa
    gi_wp2_with (gi_at_call 16;refine (callsIn_wide.2 HFa.out).mono ?_;rintro r w2 ⟨rfl,hB2⟩;have hJ2:=HI.out.keep _ _ _ HJ1.out hB2;have R2:=zy (R1.out.1.keep hB2);have c0:=R2.out.cell (i:=0) (v:= .int .i64 4) rfl;have c1:=R2.out.cell (i:=1) (v:= .int .i64 (N:Int)) rfl;have c2:=R2.out.cell (i:=2) (v:= .int .i64 (a:Int)) rfl;obtain ⟨fn,tmps,assign,body,hy,hR⟩:=HYl.out (o4 a) 4 (N:Int) (a:Int) _ hJ2 (by rw [←HSa.out];exact HPa.out))
    refine hR.mono ?_
    rintro r w3 (⟨rfl,hJ3⟩|⟨rfl,hJ3⟩)
    ·have HJ3:Hid (J (o4 (a+1)) w3):=zy (by rw [HSa.out];exact hJ3)
     clear hJ3 hJ2 hB2 c0 c1 c2
     gi_wp2
     go_roundw
     case rel=>exact ⟨a+1,by go_num,by omega,by omega,HJ3⟩
     case measure=>simp [intOf];omega
    ·have HJ3:Hid (∃pre,pre <+:o4 N∧Jx pre w3):=zy ⟨_,by rw [←HSa.out];exact HPa.out,hJ3⟩
     clear hJ3 hJ2 hB2 c0 c1 c2
     gi_wp2
     refine bodyPost_ret (results_none rfl _ _ _) rfl ?_
     exact ⟨⟨_,rfl⟩, .inr HJ3.out⟩
   ·have tz:(e == 0)=false:=by rw [beq_eq_false_iff_ne];exact hz
    rw [if_neg (fun h=>hz h.2),List.append_nil] at HSa
    gi_wp2_with (gi_at_call 16;refine (callsIn_wide.2 HFa.out).mono ?_;rintro r w2 ⟨rfl,hB2⟩;have hJ2:=zy (HI.out.keep _ _ _ HJ1.out hB2);clear hB2)
    refine ⟨fun _ h=>(by cases h),?_⟩
    gi_wp2
    go_roundw
    case rel=>exact ⟨a+1,by go_num,by omega,by omega,zy (by rw [HSa.out];exact hJ2.out)⟩
    case measure=>simp [intOf];omega
  ·have HJn:Hid (J (o4 N) wr):=zy (by
    by_cases h2:a=N
    ·rw [←h2];exact hJa.out
    ·have h3:a=2:=by omega
     rw [H0.out N (by omega),←H0.out a (by omega)];exact hJa.out)
   gi_wp2
   refine bodyPost_ret (results_none rfl _ _ _) rfl ?_
   exact ⟨⟨_,rfl⟩, .inl HJn.out⟩
theorem zMF (m:Nat) (hm:1≤m) (l:Nat) (v:Value) (p g n:Int) (bk bn bf:Nat) (J Jx:List PlT→World→Prop) (H:PlIt v p g n 5 bk bn bf J) (hn:1≤n∧n≤1024)
  (hY:zA9 (m-1) l (one p 5 n (rpad n)) J Jx) (W:World) (h0:J [] W):
  CallsIn Fence.wide m Tryz.prog 113 #[.func (.yield l) #[] #[], .pointer (some ⟨bk,0,none⟩), .pointer (some ⟨bn,0,none⟩), .pointer (some ⟨bf,0,none⟩)] W fun e W'=>(∃v,e= .returned v)∧(J (one p 5 n (rpad n)) W'∨ ∃pre,pre <+:one p 5 n (rpad n)∧Jx pre W'):=by
 have ck:=H.ck _ _ h0
 have cn:=H.cn _ _ h0
 have cf:=H.cf _ _ h0
 have HP:=zy (fun W=>zSr n W (by omega) (by omega))
 have HC:=zy (fun W=>zES n W (by omega) (by omega))
 have hr:=zSs n
 have hc:=zET n
 have HI:=zy H
 have HF:=zy (fun s W (h:J s W) (A:Int) (h1:0≤A) (h2:A≤4096)=>zOe (H.fd _ _ h) 5 n A (by omega) (by omega) (by omega) (by omega) (by omega) (by omega))
 have HF2:=zy (fun s W (h:J s W)=>HF.out s W h (rpad n) (by omega) (by omega))
 have HL:Hid (one p 5 n (rpad n)=if fitI p 5 n (rpad n)=0 then [(5,n,rpad n)] else []):=zy rfl
 have HYl:=zy hY
 obtain ⟨L,hL⟩: ∃L,L=one p 5 n (rpad n):=⟨_,rfl⟩
 rw [←hL] at HL HYl ⊢
 obtain ⟨e,he⟩: ∃e,e=fitI p 5 n (rpad n):=⟨_,rfl⟩
 rw [←he] at HF2 HL
 obtain ⟨a,ha⟩: ∃a,a=rpad n:=⟨_,rfl⟩
 rw [←ha] at HP hr HF2 HL
 obtain ⟨c,hce⟩: ∃c,c=cpad n:=⟨_,rfl⟩
 rw [←hce] at HC hc
 have HJ0:=zy h0
 clear hL he HF ha hce H hY h0
 have hF14:Fence.wide.fn 16:=trivial
 have e14: ∀args w,(callFunc 16 args).run Tryz.prog w= .ok (.enter 16 args) w:=enters_of Tryz.func16 (by kernel_rfl) rfl
 have hF109:Fence.wide.fn 106:=trivial
 have e109: ∀args w,(callFunc 106 args).run Tryz.prog w= .ok (.enter 106 args) w:=enters_of Tryz.func106 (by kernel_rfl) rfl
 have hF110:Fence.wide.fn 107:=trivial
 have e110: ∀args w,(callFunc 107 args).run Tryz.prog w= .ok (.enter 107 args) w:=enters_of Tryz.func107 (by kernel_rfl) rfl
 have HSJ:Hid (∀wz,Below W.heap.size W wz→wz.cell? ⟨bk,0,none⟩=some (.int .i64 5)∧wz.cell? ⟨bn,0,none⟩=some (.int .i64 n)):=zy (fun wz h=>⟨HI.out.ck _ _ (HI.out.keep _ _ _ HJ0.out h),HI.out.cn _ _ (HI.out.keep _ _ _ HJ0.out h)⟩)
 have HBd:Hid (Below W.heap.size W (W.drewN 1)):=zy (below_drewN (Below.refl _ _) 1)
 refine callsIn_of_wp Tryz.func113 rfl trivial ?_ rfl
 simp only [Tryz.ntmps113,List.size_toArray,List.length_cons,List.length_nil,Nat.reduceAdd,Nat.reduceSub,Array.replicate_succ,Array.replicate_zero,List.push_toArray,List.append_toArray,List.nil_append,List.cons_append]
 gi_wp2
 refine wpIn_wide.2 ?_
 refine wp_region_held_drew (S:=fun wz=>wz.cell? ⟨bk,0,none⟩=some (.int .i64 5)∧wz.cell? ⟨bn,0,none⟩=some (.int .i64 n)) (by kernel_rfl) ((HSJ.out _ HBd.out)) (fun hHeld=>?_)
 refine zj (i:=0) (v:=?_) rfl (by kernel_rfl) (fun _ _ _=>id) (by rfl) ?_ (HSJ.out _ HBd.out) ?_
 rotate_left
 ·intro w h;go_simp;try with_reducible rfl
 try simp only [zv,zx]
 refine zj (i:=1) (v:=?_) rfl (by kernel_rfl) (fun _ _ _=>id) (by rfl) ?_ (HSJ.out _ HBd.out) ?_
 rotate_left
 ·intro w h;go_simp;try with_reducible rfl
 try simp only [zv,zx]
 refine zj (i:=2) (v:=?_) rfl (by kernel_rfl) (fun _ _ _=>id) (by rfl) ?_ (HSJ.out _ HBd.out) ?_
 rotate_left
 ·intro w h;go_simp;try with_reducible rfl
 try simp only [zv,zx]
 refine wpAnyH_ready (rs:= [3,5]) (by kernel_rfl) (by simp) ?_
 refine AllReadyH.cons rfl (fun K hK=>?_) ?_
 ·try simp only [zx]
  rw [if_pos (by rfl)]
  go_wp2_with (go_at_call 106;refine (HP.out _).mono ?_;rintro r w2 ⟨rfl,hB2⟩)
  have z2:=zy (HBd.out.trans hB2)
  clear hB2
  refine hK.out _ _ ((HSJ.out _ z2.out)) (fun _=>?_)
  clear hK K
  try simp only [zv,zx]
  refine zj (i:=4) (v:=?_) rfl (by kernel_rfl) (fun _ _ _=>id) (by rfl) ?_ (HSJ.out _ z2.out) ?_
  rotate_left
  ·intro w h;go_simp;try with_reducible rfl
  try simp only [zv,zx]
  refine wpAnyH_ready (rs:= [5]) (by kernel_rfl) (by simp) ?_
  refine AllReadyH.cons rfl (fun K hK=>?_) AllReadyH.nil
  try simp only [zx]
  rw [if_pos (by rfl)]
  go_wp2_with fail
  have z5:Hid (zAI (w2.alloc (.cells #[.int .i64 0, .int .i64 0, .int .i64 0] 36)) w2.heap.size 36 #[.int .i64 0, .int .i64 0, .int .i64 0]∧Below W.heap.size W (w2.alloc (.cells #[.int .i64 0, .int .i64 0, .int .i64 0] 36))∧W.heap.size≤w2.heap.size):=zy ⟨zAI.new _ _ _,z2.out.alloc z2.out.size _,z2.out.size⟩
  refine hK.out _ _ ((HSJ.out _ z5.out.2.1)) (fun _=>?_)
  clear hK K
  try simp only [zv,zx]
  refine wpAnyH_ready (rs:= [6]) (by kernel_rfl) (by simp) ?_
  refine AllReadyH.cons rfl (fun K hK=>?_) AllReadyH.nil
  try simp only [zx]
  rw [if_pos (by rfl)]
  refine wp_store_row _ _ _ rfl _ #[.int .i64 5, .int .i64 n, .int .i64 a] rfl (by rfl) _ _ (z5.out.1) (by exact zT5) rfl (zOs _ _ _) ?_
  have zz:Hid (zAI ((w2.alloc (.cells #[.int .i64 0, .int .i64 0, .int .i64 0] 36)).setRow w2.heap.size #[.int .i64 5, .int .i64 n, .int .i64 a]) w2.heap.size 36 #[.int .i64 5, .int .i64 n, .int .i64 a]∧Below W.heap.size W ((w2.alloc (.cells #[.int .i64 0, .int .i64 0, .int .i64 0] 36)).setRow w2.heap.size #[.int .i64 5, .int .i64 n, .int .i64 a])∧W.heap.size≤w2.heap.size):=zy ⟨z5.out.1.setRow _,below_setRow z5.out.2.1 z5.out.2.2 _,z5.out.2.2⟩
  refine hK.out _ _ ((HSJ.out _ zz.out.2.1)) (fun _=>?_)
  clear hK K
  try simp only [zv,zx]
  refine wpAnyH_done (by kernel_rfl) ?_ _
  generalize (w2.alloc (.cells #[.int .i64 0, .int .i64 0, .int .i64 0] 36)).setRow w2.heap.size #[.int .i64 5, .int .i64 n, .int .i64 a]=w6 at *
  have hJ6:=HI.out.keep _ _ _ HJ0.out zz.out.2.1
  have ck6:=HI.out.ck _ _ hJ6
  have cn6:=HI.out.cn _ _ hJ6
  have cf6:=HI.out.cf _ _ hJ6
  have b0:=zz.out.1.cell (i:=0) (v:= .int .i64 5) rfl
  have b1:=zz.out.1.cell (i:=1) (v:= .int .i64 n) rfl
  have b2:=zz.out.1.cell (i:=2) (v:= .int .i64 a) rfl
  have zs:Hid (zAI w6 w2.heap.size 36 #[.int .i64 5, .int .i64 n, .int .i64 a]∧Below W.heap.size W w6):=zy ⟨zz.out.1,zz.out.2.1⟩
  have hJs:=zy hJ6
  by_cases hz:e=0
  ·subst hz
   have HL2:Hid (L= [(5,n,a)]):=zy (by rw [HL.out,if_pos rfl])
   gi_wp2_with (first|(gi_at_call 16;refine (callsIn_wide.2 (HF2.out _ _ hJs.out)).mono ?_;rintro r w7 ⟨rfl,hB7⟩;have hJ7:=HI.out.keep _ _ _ hJs.out hB7;have R7:=zy (zs.out.1.keep hB7);have c0:=R7.out.cell (i:=0) (v:= .int .i64 5) rfl;have c1:=R7.out.cell (i:=1) (v:= .int .i64 n) rfl;have c2:=R7.out.cell (i:=2) (v:= .int .i64 a) rfl;obtain ⟨fn,tmps,assign,body,hy,hR⟩:=HYl.out [] 5 n a _ hJ7 (by rw [HL2.out];exact List.prefix_refl _)) )
   refine hR.mono ?_
   rintro r w8 (⟨rfl,hJ8⟩|⟨rfl,hJ8⟩)
   ·have HJ8:Hid (J L w8):=zy (by rw [HL2.out];exact hJ8)
    gi_wp2
    refine bodyPost_ret (results_none rfl _ _ _) rfl ?_
    exact ⟨⟨_,rfl⟩, .inl HJ8.out⟩
   ·have HJ8:Hid (∃pre,pre <+:L∧Jx pre w8):=zy ⟨_,by rw [HL2.out];exact List.prefix_refl _,hJ8⟩
    gi_wp2
    refine bodyPost_ret (results_none rfl _ _ _) rfl ?_
    exact ⟨⟨_,rfl⟩, .inr HJ8.out⟩
  ·have tz:(e == 0)=false:=by rw [beq_eq_false_iff_ne];exact hz
   have HL2:Hid (L= []):=zy (by rw [HL.out,if_neg hz])
   gi_wp2_with (first|(gi_at_call 16;refine (callsIn_wide.2 (HF2.out _ _ hJs.out)).mono ?_;rintro r w7 ⟨rfl,hB7⟩;have hJ7:=zy (HI.out.keep _ _ _ hJs.out hB7)) )
   refine bodyPost_ret (results_none rfl _ _ _) rfl ?_
   exact ⟨⟨_,rfl⟩, .inl (by rw [HL2.out];exact hJ7.out)⟩
 ·refine AllReadyH.cons rfl (fun K hK=>?_) AllReadyH.nil
  try simp only [zx]
  rw [if_pos (by rfl)]
  go_wp2_with fail
  have z5:Hid (zAI ((W.drewN 1).alloc (.cells #[.int .i64 0, .int .i64 0, .int .i64 0] 36)) W.heap.size 36 #[.int .i64 0, .int .i64 0, .int .i64 0]∧Below W.heap.size W ((W.drewN 1).alloc (.cells #[.int .i64 0, .int .i64 0, .int .i64 0] 36))∧W.heap.size≤W.heap.size):=zy ⟨zAI.new _ _ _,HBd.out.alloc HBd.out.size _,Nat.le_refl _⟩
  refine hK.out _ _ ((HSJ.out _ z5.out.2.1)) (fun _=>?_)
  clear hK K
  try simp only [zv,zx]
  refine wpAnyH_ready (rs:= [3]) (by kernel_rfl) (by simp) ?_
  refine AllReadyH.cons rfl (fun K hK=>?_) AllReadyH.nil
  try simp only [zx]
  rw [if_pos (by rfl)]
  go_wp2_with (go_at_call 106;refine (HP.out _).mono ?_;rintro r w2 ⟨rfl,hB2⟩)
  have z2:Hid (zAI w2 W.heap.size 36 #[.int .i64 0, .int .i64 0, .int .i64 0]∧Below W.heap.size W w2∧W.heap.size≤W.heap.size):=zy ⟨z5.out.1.keep hB2,z5.out.2.1.trans (hB2.mono z5.out.2.1.size),Nat.le_refl _⟩
  clear hB2
  refine hK.out _ _ ((HSJ.out _ z2.out.2.1)) (fun _=>?_)
  clear hK K
  try simp only [zv,zx]
  refine zj (i:=4) (v:=?_) rfl (by kernel_rfl) (fun _ _ _=>id) (by rfl) ?_ (HSJ.out _ z2.out.2.1) ?_
  rotate_left
  ·intro w h;go_simp;try with_reducible rfl
  try simp only [zv,zx]
  refine wpAnyH_ready (rs:= [6]) (by kernel_rfl) (by simp) ?_
  refine AllReadyH.cons rfl (fun K hK=>?_) AllReadyH.nil
  try simp only [zx]
  rw [if_pos (by rfl)]
  refine wp_store_row _ _ _ rfl _ #[.int .i64 5, .int .i64 n, .int .i64 a] rfl (by rfl) _ _ (z2.out.1) (by exact zT5) rfl (zOs _ _ _) ?_
  have zz:Hid (zAI ((w2).setRow W.heap.size #[.int .i64 5, .int .i64 n, .int .i64 a]) W.heap.size 36 #[.int .i64 5, .int .i64 n, .int .i64 a]∧Below W.heap.size W ((w2).setRow W.heap.size #[.int .i64 5, .int .i64 n, .int .i64 a])∧W.heap.size≤W.heap.size):=zy ⟨z2.out.1.setRow _,below_setRow z2.out.2.1 z2.out.2.2 _,z2.out.2.2⟩
  refine hK.out _ _ ((HSJ.out _ zz.out.2.1)) (fun _=>?_)
  clear hK K
  try simp only [zv,zx]
  refine wpAnyH_done (by kernel_rfl) ?_ _
  generalize (w2).setRow W.heap.size #[.int .i64 5, .int .i64 n, .int .i64 a]=w6 at *
  have hJ6:=HI.out.keep _ _ _ HJ0.out zz.out.2.1
  have ck6:=HI.out.ck _ _ hJ6
  have cn6:=HI.out.cn _ _ hJ6
  have cf6:=HI.out.cf _ _ hJ6
  have b0:=zz.out.1.cell (i:=0) (v:= .int .i64 5) rfl
  have b1:=zz.out.1.cell (i:=1) (v:= .int .i64 n) rfl
  have b2:=zz.out.1.cell (i:=2) (v:= .int .i64 a) rfl
  have zs:Hid (zAI w6 W.heap.size 36 #[.int .i64 5, .int .i64 n, .int .i64 a]∧Below W.heap.size W w6):=zy ⟨zz.out.1,zz.out.2.1⟩
  have hJs:=zy hJ6
  by_cases hz:e=0
  ·subst hz
   have HL2:Hid (L= [(5,n,a)]):=zy (by rw [HL.out,if_pos rfl])
   gi_wp2_with (first|(gi_at_call 16;refine (callsIn_wide.2 (HF2.out _ _ hJs.out)).mono ?_;rintro r w7 ⟨rfl,hB7⟩;have hJ7:=HI.out.keep _ _ _ hJs.out hB7;have R7:=zy (zs.out.1.keep hB7);have c0:=R7.out.cell (i:=0) (v:= .int .i64 5) rfl;have c1:=R7.out.cell (i:=1) (v:= .int .i64 n) rfl;have c2:=R7.out.cell (i:=2) (v:= .int .i64 a) rfl;obtain ⟨fn,tmps,assign,body,hy,hR⟩:=HYl.out [] 5 n a _ hJ7 (by rw [HL2.out];exact List.prefix_refl _)) )
   refine hR.mono ?_
   rintro r w8 (⟨rfl,hJ8⟩|⟨rfl,hJ8⟩)
   ·have HJ8:Hid (J L w8):=zy (by rw [HL2.out];exact hJ8)
    gi_wp2
    refine bodyPost_ret (results_none rfl _ _ _) rfl ?_
    exact ⟨⟨_,rfl⟩, .inl HJ8.out⟩
   ·have HJ8:Hid (∃pre,pre <+:L∧Jx pre w8):=zy ⟨_,by rw [HL2.out];exact List.prefix_refl _,hJ8⟩
    gi_wp2
    refine bodyPost_ret (results_none rfl _ _ _) rfl ?_
    exact ⟨⟨_,rfl⟩, .inr HJ8.out⟩
  ·have tz:(e == 0)=false:=by rw [beq_eq_false_iff_ne];exact hz
   have HL2:Hid (L= []):=zy (by rw [HL.out,if_neg hz])
   gi_wp2_with (first|(gi_at_call 16;refine (callsIn_wide.2 (HF2.out _ _ hJs.out)).mono ?_;rintro r w7 ⟨rfl,hB7⟩;have hJ7:=zy (HI.out.keep _ _ _ hJs.out hB7)) )
   refine bodyPost_ret (results_none rfl _ _ _) rfl ?_
   exact ⟨⟨_,rfl⟩, .inl (by rw [HL2.out];exact hJ7.out)⟩
theorem zMG (m:Nat) (hm:1≤m) (l:Nat) (v:Value) (p g n:Int) (bk bn bf:Nat) (J Jx:List PlT→World→Prop) (H:PlIt v p g n 6 bk bn bf J) (hn:1≤n∧n≤1024)
  (hY:zA9 (m-1) l (one p 6 n (cpad n)) J Jx) (W:World) (h0:J [] W):
  CallsIn Fence.wide m Tryz.prog 113 #[.func (.yield l) #[] #[], .pointer (some ⟨bk,0,none⟩), .pointer (some ⟨bn,0,none⟩), .pointer (some ⟨bf,0,none⟩)] W fun e W'=>(∃v,e= .returned v)∧(J (one p 6 n (cpad n)) W'∨ ∃pre,pre <+:one p 6 n (cpad n)∧Jx pre W'):=by
 have ck:=H.ck _ _ h0
 have cn:=H.cn _ _ h0
 have cf:=H.cf _ _ h0
 have HP:=zy (fun W=>zSr n W (by omega) (by omega))
 have HC:=zy (fun W=>zES n W (by omega) (by omega))
 have hr:=zSs n
 have hc:=zET n
 have HI:=zy H
 have HF:=zy (fun s W (h:J s W) (A:Int) (h1:0≤A) (h2:A≤4096)=>zOe (H.fd _ _ h) 6 n A (by omega) (by omega) (by omega) (by omega) (by omega) (by omega))
 have HF2:=zy (fun s W (h:J s W)=>HF.out s W h (cpad n) (by omega) (by omega))
 have HL:Hid (one p 6 n (cpad n)=if fitI p 6 n (cpad n)=0 then [(6,n,cpad n)] else []):=zy rfl
 have HYl:=zy hY
 obtain ⟨L,hL⟩: ∃L,L=one p 6 n (cpad n):=⟨_,rfl⟩
 rw [←hL] at HL HYl ⊢
 obtain ⟨e,he⟩: ∃e,e=fitI p 6 n (cpad n):=⟨_,rfl⟩
 rw [←he] at HF2 HL
 obtain ⟨a,ha⟩: ∃a,a=rpad n:=⟨_,rfl⟩
 rw [←ha] at HP hr
 obtain ⟨c,hce⟩: ∃c,c=cpad n:=⟨_,rfl⟩
 rw [←hce] at HC hc HF2 HL
 have HJ0:=zy h0
 clear hL he HF ha hce H hY h0
 have hF14:Fence.wide.fn 16:=trivial
 have e14: ∀args w,(callFunc 16 args).run Tryz.prog w= .ok (.enter 16 args) w:=enters_of Tryz.func16 (by kernel_rfl) rfl
 have hF109:Fence.wide.fn 106:=trivial
 have e109: ∀args w,(callFunc 106 args).run Tryz.prog w= .ok (.enter 106 args) w:=enters_of Tryz.func106 (by kernel_rfl) rfl
 have hF110:Fence.wide.fn 107:=trivial
 have e110: ∀args w,(callFunc 107 args).run Tryz.prog w= .ok (.enter 107 args) w:=enters_of Tryz.func107 (by kernel_rfl) rfl
 have HSJ:Hid (∀wz,Below W.heap.size W wz→wz.cell? ⟨bk,0,none⟩=some (.int .i64 6)∧wz.cell? ⟨bn,0,none⟩=some (.int .i64 n)):=zy (fun wz h=>⟨HI.out.ck _ _ (HI.out.keep _ _ _ HJ0.out h),HI.out.cn _ _ (HI.out.keep _ _ _ HJ0.out h)⟩)
 have HBd:Hid (Below W.heap.size W (W.drewN 1)):=zy (below_drewN (Below.refl _ _) 1)
 refine callsIn_of_wp Tryz.func113 rfl trivial ?_ rfl
 simp only [Tryz.ntmps113,List.size_toArray,List.length_cons,List.length_nil,Nat.reduceAdd,Nat.reduceSub,Array.replicate_succ,Array.replicate_zero,List.push_toArray,List.append_toArray,List.nil_append,List.cons_append]
 gi_wp2
 refine wpIn_wide.2 ?_
 refine wp_region_held_drew (S:=fun wz=>wz.cell? ⟨bk,0,none⟩=some (.int .i64 6)∧wz.cell? ⟨bn,0,none⟩=some (.int .i64 n)) (by kernel_rfl) ((HSJ.out _ HBd.out)) (fun hHeld=>?_)
 refine zj (i:=0) (v:=?_) rfl (by kernel_rfl) (fun _ _ _=>id) (by rfl) ?_ (HSJ.out _ HBd.out) ?_
 rotate_left
 ·intro w h;go_simp;try with_reducible rfl
 try simp only [zv,zx]
 refine zj (i:=1) (v:=?_) rfl (by kernel_rfl) (fun _ _ _=>id) (by rfl) ?_ (HSJ.out _ HBd.out) ?_
 rotate_left
 ·intro w h;go_simp;try with_reducible rfl
 try simp only [zv,zx]
 refine zj (i:=2) (v:=?_) rfl (by kernel_rfl) (fun _ _ _=>id) (by rfl) ?_ (HSJ.out _ HBd.out) ?_
 rotate_left
 ·intro w h;go_simp;try with_reducible rfl
 try simp only [zv,zx]
 refine wpAnyH_ready (rs:= [3,5]) (by kernel_rfl) (by simp) ?_
 refine AllReadyH.cons rfl (fun K hK=>?_) ?_
 ·try simp only [zx]
  rw [if_pos (by rfl)]
  go_wp2_with (go_at_call 106;refine (HP.out _).mono ?_;rintro r w2 ⟨rfl,hB2⟩)
  have z2:=zy (HBd.out.trans hB2)
  clear hB2
  refine hK.out _ _ ((HSJ.out _ z2.out)) (fun _=>?_)
  clear hK K
  try simp only [zv,zx]
  refine zj (i:=4) (v:=?_) rfl (by kernel_rfl) (fun _ _ _=>id) (by rfl) ?_ (HSJ.out _ z2.out) ?_
  rotate_left
  ·intro w h;go_simp;try with_reducible rfl
  try simp only [zv,zx]
  refine wpAnyH_ready (rs:= [5]) (by kernel_rfl) (by simp) ?_
  refine AllReadyH.cons rfl (fun K hK=>?_) AllReadyH.nil
  try simp only [zx]
  rw [if_pos (by rfl)]
  go_wp2_with fail
  have z5:Hid (zAI (w2.alloc (.cells #[.int .i64 0, .int .i64 0, .int .i64 0] 36)) w2.heap.size 36 #[.int .i64 0, .int .i64 0, .int .i64 0]∧Below W.heap.size W (w2.alloc (.cells #[.int .i64 0, .int .i64 0, .int .i64 0] 36))∧W.heap.size≤w2.heap.size):=zy ⟨zAI.new _ _ _,z2.out.alloc z2.out.size _,z2.out.size⟩
  refine hK.out _ _ ((HSJ.out _ z5.out.2.1)) (fun _=>?_)
  clear hK K
  try simp only [zv,zx]
  refine wpAnyH_ready (rs:= [6]) (by kernel_rfl) (by simp) ?_
  refine AllReadyH.cons rfl (fun K hK=>?_) AllReadyH.nil
  try simp only [zx]
  rw [if_pos (by rfl)]
  refine wp_store_row _ _ _ rfl _ #[.int .i64 6, .int .i64 n, .int .i64 a] rfl (by rfl) _ _ (z5.out.1) (by exact zT5) rfl (zOs _ _ _) ?_
  have zz:Hid (zAI ((w2.alloc (.cells #[.int .i64 0, .int .i64 0, .int .i64 0] 36)).setRow w2.heap.size #[.int .i64 6, .int .i64 n, .int .i64 a]) w2.heap.size 36 #[.int .i64 6, .int .i64 n, .int .i64 a]∧Below W.heap.size W ((w2.alloc (.cells #[.int .i64 0, .int .i64 0, .int .i64 0] 36)).setRow w2.heap.size #[.int .i64 6, .int .i64 n, .int .i64 a])∧W.heap.size≤w2.heap.size):=zy ⟨z5.out.1.setRow _,below_setRow z5.out.2.1 z5.out.2.2 _,z5.out.2.2⟩
  refine hK.out _ _ ((HSJ.out _ zz.out.2.1)) (fun _=>?_)
  clear hK K
  try simp only [zv,zx]
  refine wpAnyH_done (by kernel_rfl) ?_ _
  generalize (w2.alloc (.cells #[.int .i64 0, .int .i64 0, .int .i64 0] 36)).setRow w2.heap.size #[.int .i64 6, .int .i64 n, .int .i64 a]=w6 at *
  have hJ6:=HI.out.keep _ _ _ HJ0.out zz.out.2.1
  have ck6:=HI.out.ck _ _ hJ6
  have cn6:=HI.out.cn _ _ hJ6
  have cf6:=HI.out.cf _ _ hJ6
  have b0:=zz.out.1.cell (i:=0) (v:= .int .i64 6) rfl
  have b1:=zz.out.1.cell (i:=1) (v:= .int .i64 n) rfl
  have b2:=zz.out.1.cell (i:=2) (v:= .int .i64 a) rfl
  have f2:=zz.out.1.frozen 2
  have zs:Hid (zAI (w6.setCell ⟨w2.heap.size,2,none⟩ (.int .i64 c)) w2.heap.size 36 #[.int .i64 6, .int .i64 n, .int .i64 c]∧Below W.heap.size W (w6.setCell ⟨w2.heap.size,2,none⟩ (.int .i64 c))):=zy ⟨zz.out.1.set 2 (.int .i64 c),zCn zz.out.2.1 zz.out.2.2 2 (.int .i64 c)⟩
  have hJs:=zy (HI.out.keep _ _ _ HJ0.out zs.out.2)
  have cfs:=HI.out.cf _ _ hJs.out
  by_cases hz:e=0
  ·subst hz
   have HL2:Hid (L= [(6,n,c)]):=zy (by rw [HL.out,if_pos rfl])
   gi_wp2_with (first|(gi_at_call 16;refine (callsIn_wide.2 (HF2.out _ _ hJs.out)).mono ?_;rintro r w7 ⟨rfl,hB7⟩;have hJ7:=HI.out.keep _ _ _ hJs.out hB7;have R7:=zy (zs.out.1.keep hB7);have c0:=R7.out.cell (i:=0) (v:= .int .i64 6) rfl;have c1:=R7.out.cell (i:=1) (v:= .int .i64 n) rfl;have c2:=R7.out.cell (i:=2) (v:= .int .i64 c) rfl;obtain ⟨fn,tmps,assign,body,hy,hR⟩:=HYl.out [] 6 n c _ hJ7 (by rw [HL2.out];exact List.prefix_refl _))|(gi_at_call 107;refine (callsIn_wide.2 (HC.out _)).mono ?_;rintro r w5 ⟨rfl,rfl⟩))
   refine hR.mono ?_
   rintro r w8 (⟨rfl,hJ8⟩|⟨rfl,hJ8⟩)
   ·have HJ8:Hid (J L w8):=zy (by rw [HL2.out];exact hJ8)
    gi_wp2
    refine bodyPost_ret (results_none rfl _ _ _) rfl ?_
    exact ⟨⟨_,rfl⟩, .inl HJ8.out⟩
   ·have HJ8:Hid (∃pre,pre <+:L∧Jx pre w8):=zy ⟨_,by rw [HL2.out];exact List.prefix_refl _,hJ8⟩
    gi_wp2
    refine bodyPost_ret (results_none rfl _ _ _) rfl ?_
    exact ⟨⟨_,rfl⟩, .inr HJ8.out⟩
  ·have tz:(e == 0)=false:=by rw [beq_eq_false_iff_ne];exact hz
   have HL2:Hid (L= []):=zy (by rw [HL.out,if_neg hz])
   gi_wp2_with (first|(gi_at_call 16;refine (callsIn_wide.2 (HF2.out _ _ hJs.out)).mono ?_;rintro r w7 ⟨rfl,hB7⟩;have hJ7:=zy (HI.out.keep _ _ _ hJs.out hB7))|(gi_at_call 107;refine (callsIn_wide.2 (HC.out _)).mono ?_;rintro r w5 ⟨rfl,rfl⟩))
   refine bodyPost_ret (results_none rfl _ _ _) rfl ?_
   exact ⟨⟨_,rfl⟩, .inl (by rw [HL2.out];exact hJ7.out)⟩
 ·refine AllReadyH.cons rfl (fun K hK=>?_) AllReadyH.nil
  try simp only [zx]
  rw [if_pos (by rfl)]
  go_wp2_with fail
  have z5:Hid (zAI ((W.drewN 1).alloc (.cells #[.int .i64 0, .int .i64 0, .int .i64 0] 36)) W.heap.size 36 #[.int .i64 0, .int .i64 0, .int .i64 0]∧Below W.heap.size W ((W.drewN 1).alloc (.cells #[.int .i64 0, .int .i64 0, .int .i64 0] 36))∧W.heap.size≤W.heap.size):=zy ⟨zAI.new _ _ _,HBd.out.alloc HBd.out.size _,Nat.le_refl _⟩
  refine hK.out _ _ ((HSJ.out _ z5.out.2.1)) (fun _=>?_)
  clear hK K
  try simp only [zv,zx]
  refine wpAnyH_ready (rs:= [3]) (by kernel_rfl) (by simp) ?_
  refine AllReadyH.cons rfl (fun K hK=>?_) AllReadyH.nil
  try simp only [zx]
  rw [if_pos (by rfl)]
  go_wp2_with (go_at_call 106;refine (HP.out _).mono ?_;rintro r w2 ⟨rfl,hB2⟩)
  have z2:Hid (zAI w2 W.heap.size 36 #[.int .i64 0, .int .i64 0, .int .i64 0]∧Below W.heap.size W w2∧W.heap.size≤W.heap.size):=zy ⟨z5.out.1.keep hB2,z5.out.2.1.trans (hB2.mono z5.out.2.1.size),Nat.le_refl _⟩
  clear hB2
  refine hK.out _ _ ((HSJ.out _ z2.out.2.1)) (fun _=>?_)
  clear hK K
  try simp only [zv,zx]
  refine zj (i:=4) (v:=?_) rfl (by kernel_rfl) (fun _ _ _=>id) (by rfl) ?_ (HSJ.out _ z2.out.2.1) ?_
  rotate_left
  ·intro w h;go_simp;try with_reducible rfl
  try simp only [zv,zx]
  refine wpAnyH_ready (rs:= [6]) (by kernel_rfl) (by simp) ?_
  refine AllReadyH.cons rfl (fun K hK=>?_) AllReadyH.nil
  try simp only [zx]
  rw [if_pos (by rfl)]
  refine wp_store_row _ _ _ rfl _ #[.int .i64 6, .int .i64 n, .int .i64 a] rfl (by rfl) _ _ (z2.out.1) (by exact zT5) rfl (zOs _ _ _) ?_
  have zz:Hid (zAI ((w2).setRow W.heap.size #[.int .i64 6, .int .i64 n, .int .i64 a]) W.heap.size 36 #[.int .i64 6, .int .i64 n, .int .i64 a]∧Below W.heap.size W ((w2).setRow W.heap.size #[.int .i64 6, .int .i64 n, .int .i64 a])∧W.heap.size≤W.heap.size):=zy ⟨z2.out.1.setRow _,below_setRow z2.out.2.1 z2.out.2.2 _,z2.out.2.2⟩
  refine hK.out _ _ ((HSJ.out _ zz.out.2.1)) (fun _=>?_)
  clear hK K
  try simp only [zv,zx]
  refine wpAnyH_done (by kernel_rfl) ?_ _
  generalize (w2).setRow W.heap.size #[.int .i64 6, .int .i64 n, .int .i64 a]=w6 at *
  have hJ6:=HI.out.keep _ _ _ HJ0.out zz.out.2.1
  have ck6:=HI.out.ck _ _ hJ6
  have cn6:=HI.out.cn _ _ hJ6
  have cf6:=HI.out.cf _ _ hJ6
  have b0:=zz.out.1.cell (i:=0) (v:= .int .i64 6) rfl
  have b1:=zz.out.1.cell (i:=1) (v:= .int .i64 n) rfl
  have b2:=zz.out.1.cell (i:=2) (v:= .int .i64 a) rfl
  have f2:=zz.out.1.frozen 2
  have zs:Hid (zAI (w6.setCell ⟨W.heap.size,2,none⟩ (.int .i64 c)) W.heap.size 36 #[.int .i64 6, .int .i64 n, .int .i64 c]∧Below W.heap.size W (w6.setCell ⟨W.heap.size,2,none⟩ (.int .i64 c))):=zy ⟨zz.out.1.set 2 (.int .i64 c),zCn zz.out.2.1 zz.out.2.2 2 (.int .i64 c)⟩
  have hJs:=zy (HI.out.keep _ _ _ HJ0.out zs.out.2)
  have cfs:=HI.out.cf _ _ hJs.out
  by_cases hz:e=0
  ·subst hz
   have HL2:Hid (L= [(6,n,c)]):=zy (by rw [HL.out,if_pos rfl])
   gi_wp2_with (first|(gi_at_call 16;refine (callsIn_wide.2 (HF2.out _ _ hJs.out)).mono ?_;rintro r w7 ⟨rfl,hB7⟩;have hJ7:=HI.out.keep _ _ _ hJs.out hB7;have R7:=zy (zs.out.1.keep hB7);have c0:=R7.out.cell (i:=0) (v:= .int .i64 6) rfl;have c1:=R7.out.cell (i:=1) (v:= .int .i64 n) rfl;have c2:=R7.out.cell (i:=2) (v:= .int .i64 c) rfl;obtain ⟨fn,tmps,assign,body,hy,hR⟩:=HYl.out [] 6 n c _ hJ7 (by rw [HL2.out];exact List.prefix_refl _))|(gi_at_call 107;refine (callsIn_wide.2 (HC.out _)).mono ?_;rintro r w5 ⟨rfl,rfl⟩))
   refine hR.mono ?_
   rintro r w8 (⟨rfl,hJ8⟩|⟨rfl,hJ8⟩)
   ·have HJ8:Hid (J L w8):=zy (by rw [HL2.out];exact hJ8)
    gi_wp2
    refine bodyPost_ret (results_none rfl _ _ _) rfl ?_
    exact ⟨⟨_,rfl⟩, .inl HJ8.out⟩
   ·have HJ8:Hid (∃pre,pre <+:L∧Jx pre w8):=zy ⟨_,by rw [HL2.out];exact List.prefix_refl _,hJ8⟩
    gi_wp2
    refine bodyPost_ret (results_none rfl _ _ _) rfl ?_
    exact ⟨⟨_,rfl⟩, .inr HJ8.out⟩
  ·have tz:(e == 0)=false:=by rw [beq_eq_false_iff_ne];exact hz
   have HL2:Hid (L= []):=zy (by rw [HL.out,if_neg hz])
   gi_wp2_with (first|(gi_at_call 16;refine (callsIn_wide.2 (HF2.out _ _ hJs.out)).mono ?_;rintro r w7 ⟨rfl,hB7⟩;have hJ7:=zy (HI.out.keep _ _ _ hJs.out hB7))|(gi_at_call 107;refine (callsIn_wide.2 (HC.out _)).mono ?_;rintro r w5 ⟨rfl,rfl⟩))
   refine bodyPost_ret (results_none rfl _ _ _) rfl ?_
   exact ⟨⟨_,rfl⟩, .inl (by rw [HL2.out];exact hJ7.out)⟩
end

section
def encP (x:PlT):Array Value:= #[.agg #[.int .i64 x.1, .int .i64 x.2.1, .int .i64 x.2.2]]
def zAg (v:Value) (p g n k:Int) (bk bn bf:Nat) (W:World):Prop:=
 Fd W W.heap.size v p g∧W.cell? ⟨bk,0,none⟩=some (.int .i64 k)∧W.cell? ⟨bn,0,none⟩=some (.int .i64 n)∧W.cell? ⟨bf,0,none⟩=some v
theorem zMQ (v:Value) (p g n k:Int) (bk bn bf:Nat) (hn:1≤n∧n≤1024) (hk:0≤k∧k≤6) (W0:World):
  zAu Tryz.prog 113 #[.pointer (some ⟨bk,0,none⟩), .pointer (some ⟨bn,0,none⟩), .pointer (some ⟨bf,0,none⟩)] encP (ofL p n k) (zAg v p g n k bk bn bf) W0:=fun l m J Jx hK hKx hC hY h0=>by
 have H:PlIt v p g n k bk bn bf (fun s W=>J s W∧W0.heap.size≤W.heap.size):=
  {keep:=fun s W W' h hb=>⟨hK _ _ _ h.1 (hb.mono h.2),Nat.le_trans h.2 hb.size⟩
   fd:=fun s W h=>(hC _ _ h.1).1
   ck:=fun s W h=>(hC _ _ h.1).2.1
   cn:=fun s W h=>(hC _ _ h.1).2.2.1
   cf:=fun s W h=>(hC _ _ h.1).2.2.2 }
 have hY2:zA9 (1-1) l (ofL p n k) (fun s W=>J s W∧W0.heap.size≤W.heap.size) Jx:=fun pre K N A W hJ hp=>
  (hY (1-1) pre (K,N,A) W hJ.2 hJ.1 hp).mono fun e W' h=>by
   obtain ⟨h1|h1,h2⟩:=h
   ·exact .inl ⟨h1.1,h1.2,Nat.le_trans hJ.2 h2.size⟩
   ·exact .inr h1
 refine callsIn_wide.2 ((callsIn_wide (n:=1)).1 ?_)
 have hJ0:J [] W0∧W0.heap.size≤W0.heap.size:=⟨h0,Nat.le_refl _⟩
 have fin: ∀L,L=ofL p n k→CallsIn Fence.wide 1 Tryz.prog 113 #[.func (.yield l) #[] #[], .pointer (some ⟨bk,0,none⟩), .pointer (some ⟨bn,0,none⟩), .pointer (some ⟨bf,0,none⟩)] W0 (fun e W'=>(∃v,e= .returned v)∧((J L W'∧W0.heap.size≤W'.heap.size)∨ ∃pre,pre <+:L∧Jx pre W'))→
   CallsIn Fence.wide 1 Tryz.prog 113 (#[.func (.yield l) #[] #[]] ++ #[.pointer (some ⟨bk,0,none⟩), .pointer (some ⟨bn,0,none⟩), .pointer (some ⟨bf,0,none⟩)]) W0 (fun e W'=>(∃v,e= .returned v)∧(J (ofL p n k) W'∨ ∃pre,pre <+:ofL p n k∧Jx pre W')):=fun L hL h=>by
  subst hL
  exact h.mono fun e W' h=>⟨h.1,h.2.imp (·.1) id⟩
 by_cases h4:k<4
 ·have e:ofL p n k=one p k n 0:=by unfold ofL;rw [if_neg (by omega),if_neg (by omega),if_neg (by omega)]
  rw [e] at hY2
  exact fin _ e.symm (zME 1 (Nat.le_refl _) l v p g n k bk bn bf _ _ H hn hk h4 hY2 W0 hJ0)
 by_cases h44:k=4
 ·subst h44
  have e:ofL p n 4=of4 p n n.toNat:=by unfold ofL;rw [if_pos rfl]
  rw [e] at hY2
  exact fin _ e.symm (zMD 1 (Nat.le_refl _) l v p g n bk bn bf _ _ H hn hY2 W0 hJ0)
 by_cases h5:k=5
 ·subst h5
  have e:ofL p n 5=one p 5 n (rpad n):=by unfold ofL;rw [if_neg (by decide),if_pos rfl]
  rw [e] at hY2
  exact fin _ e.symm (zMF 1 (Nat.le_refl _) l v p g n bk bn bf _ _ H hn hY2 W0 hJ0)
 have h6:k=6:=by omega
 subst h6
 have e:ofL p n 6=one p 6 n (cpad n):=by unfold ofL;rw [if_neg (by decide),if_neg (by decide),if_pos rfl]
 rw [e] at hY2
 exact fin _ e.symm (zMG 1 (Nat.le_refl _) l v p g n bk bn bf _ _ H hn hY2 W0 hJ0)
theorem zOu (q:Option Addr) (n k:Int) (w:World):
  Calls Tryz.prog 62 #[.pointer q, .int .i64 n, .int .i64 k] w fun e w'=>e= .returned (.func (.func 113) #[] #[.pointer (some ⟨w.heap.size+2,0,none⟩), .pointer (some ⟨w.heap.size+1,0,none⟩), .pointer (some ⟨w.heap.size,0,none⟩)])∧Below w.heap.size w w'∧w'.heap.size=w.heap.size+3∧
   w'.cell? ⟨w.heap.size,0,none⟩=some (.pointer q)∧w'.cell? ⟨w.heap.size+1,0,none⟩=some (.int .i64 n)∧w'.cell? ⟨w.heap.size+2,0,none⟩=some (.int .i64 k):=by
 have R:=zy (lay3 w 29 3 34 #[.pointer q] #[.int .i64 n] #[.int .i64 k])
 have c0:=zy (R.out.1.cell (i:=0) (v:= .pointer q) rfl)
 have c1:=zy (R.out.2.1.cell (i:=0) (v:= .int .i64 n) rfl)
 have c2:=zy (R.out.2.2.1.cell (i:=0) (v:= .int .i64 k) rfl)
 go_enter Tryz.func62,Tryz.ntmps62
 go_wp2
 go_ret
 exact ⟨rfl,R.out.2.2.2,by simp,c0.out,c1.out,c2.out⟩
end

section
attribute [local go_sem] Oper.semAt_some
noncomputable def upA (p n:Int) (k:Nat):List PlT:=(List.range k).flatMap fun (i:Nat)=>ofL p n (i:Int)
noncomputable def allL (p n:Int):List PlT:=upA p n 7
theorem zVX (p n:Int) (k:Nat):upA p n (k+1)=upA p n k ++ ofL p n (k:Int):=by
 unfold upA;rw [List.range_succ,List.flatMap_append];simp
theorem zVW (p n:Int) (a b:Nat) (h:a≤b):upA p n a <+:upA p n b:=by
 induction b with
 | zero=>rw [show a=0 by omega];exact List.prefix_refl _
 | succ b ih=>
  rcases Nat.lt_or_ge b a with h1|h1
  ·rw [show a=b+1 by omega];exact List.prefix_refl _
  ·rw [zVX];exact (ih h1).trans (List.prefix_append _ _)
def zAe (v:Value) (p g n:Int) (bf bn:Nat) (W:World):Prop:=
 Fd W W.heap.size v p g∧W.cell? ⟨bf,0,none⟩=some v∧W.cell? ⟨bn,0,none⟩=some (.int .i64 n)
theorem zEo {p n:Int} (h:chk p n 1024=0):1≤n∧n≤1024:=by
 unfold chk at h
 split at h
 ·omega
 ·split at h
  ·omega
  ·omega
theorem zL1 {n:Nat} {fn:Func} {tmps:Array Value} {R:Ending→World→Prop} {B:Nat} (hf:fn.results= #[]): ∀(Ds:List Nat) (w:World),Ds.Nodup→(∀D ∈ Ds,B≤D∧w.heap[D]? =some (.deferred (some [])))→
  (∀v w',Below B w w'→R (.returned v) w')→
  LeavesInM Fence.wide n Tryz.prog fn tmps R (Ds.map fun D=> { target:= .collected D,args:= #[] }) .returning w:=fun Ds=>by
 induction Ds with
 | nil=>
  intro w _ _ hR
  exact ⟨_,results_none hf _ _ _,hR _ _ (Below.refl _ _)⟩
 | cons D Ds ih=>
  intro w hnd hD hR
  have h1:=List.nodup_cons.1 hnd
  refine ⟨by simp, .inl ⟨D,_,rfl,run_takeDeferred (hD D List.mem_cons_self).2,?_⟩⟩
  refine ih _ h1.2 (fun E hE=>⟨(hD E (List.mem_cons_of_mem _ hE)).1,?_⟩) (fun v w' hb=>hR v w' ((zCm w _ (hD D List.mem_cons_self).1).trans hb))
  have hne:E≠D:=fun e=>h1.1 (e ▸ hE)
  exact (World.putObj_heap_other hne).trans (hD E (List.mem_cons_of_mem _ hE)).2
theorem zB5 (q:Option Addr) (p g n:Int) (bf bn:Nat) (hchk:chk p n 1024=0) (W0:World):
  zAu Tryz.prog 61 #[.pointer (some ⟨bf,0,none⟩), .pointer (some ⟨bn,0,none⟩)] encP (allL p n) (zAe (.pointer q) p g n bf bn) W0:=fun l m J Jx hK hKx hC hY h0=>by
 have hn:=zEo hchk
 have R1:=zy (lay1 W0 99 #[.func (.yield l) #[] #[]])
 have hJ1:=hK _ _ _ h0 R1.out.2
 obtain ⟨hFd,cf,cn⟩:=hC _ _ hJ1
 have HCk:=zy (zNX hFd n (by omega) (by omega))
 rw [hchk] at HCk
 have hF47:Fence.wide.fn 53:=trivial
 have e47: ∀args w,(callFunc 53 args).run Tryz.prog w= .ok (.enter 53 args) w:=enters_of Tryz.func53 (by kernel_rfl) rfl
 have hF56:Fence.wide.fn 62:=trivial
 have e56: ∀args w,(callFunc 62 args).run Tryz.prog w= .ok (.enter 62 args) w:=enters_of Tryz.func62 (by kernel_rfl) rfl
 refine callsIn_wide.2 ((callsIn_wide (n:=3)).1 ?_)
 refine callsIn_of_wp_marks Tryz.func61 rfl trivial ?_ rfl
 simp only [Tryz.ntmps61,List.size_toArray,List.length_cons,List.length_nil,Nat.reduceAdd,Nat.reduceSub,Array.replicate_succ,Array.replicate_zero,List.push_toArray,List.append_toArray,List.nil_append,List.cons_append]
 gi_wp2_with (gi_at_call 53;refine (callsIn_wide.2 HCk.out).mono ?_;rintro r w2 ⟨rfl,rfl⟩)
 have HC:=zy hC
 have HK:=zy hK
 have HKx:=zy hKx
 have HY:=zy hY
 have HJ1:=zy hJ1
 have HUS:=zy (zVX p n)
 have HUP:=zy (zVW p n)
 clear hC hK hKx hY hJ1 h0 hFd cf cn HCk
 refine wpIn_loop (fun a wr=> ∃(k:Nat) (Ds:List Nat) (x5 y0 y1 y2 y3 y4 y5 y6 y7 y8 y9 y10 y11 y12:Value),a= { tmps:= #[.func (.yield l) #[] #[], .pointer (some ⟨bf,0,none⟩), .pointer (some ⟨bn,0,none⟩), .pointer (some ⟨W0.heap.size,0,none⟩), .int .i64 (k:Int),x5, .pointer q, .int .i64 n, .int .i64 0, .bool false,y0,y1,y2,y3,y4,y5,y6,y7,y8,y9,y10,y11,y12],defers:=Ds.map fun D=> { target:= .collected D,args:= #[] } }∧k≤7∧Ds.Nodup∧
   (∀D ∈ Ds,W0.heap.size≤D∧wr.heap[D]? =some (.deferred (some [])))∧J (upA p n k) wr∧zAI wr W0.heap.size 99 #[.func (.yield l) #[] #[]]) (fun a _=>7-(intOf (a.tmps.getD 4 undef)).toNat)
  ⟨0,[],_,_,_,_,_,_,_,_,_,_,_,_,_,_,rfl,by omega,List.nodup_nil,(fun D h=>(by cases h)),HJ1.out,R1.out.1⟩ ?_
 rintro a wr ⟨k,Ds,x5,y0,y1,y2,y3,y4,y5,y6,y7,y8,y9,y10,y11,y12,rfl,hk7,hnd,hDs,hJ,hRow⟩
 by_cases hk:(k:Int)≤6
 ·have hca:=HC.out _ _ hJ
  have cf:=hca.2.1
  have cn:=hca.2.2
  have HRow:=zy hRow
  have HDs:=zy (And.intro hnd hDs)
  have HJ:=zy hJ
  have HO:=zy (fun W=>zOu q n (k:Int) W)
  clear hca hRow hnd hDs hJ
  gi_wp2_with (gi_at_call 62;refine (callsIn_wide.2 (HO.out _)).mono ?_;rintro r w2 ⟨rfl,hB2,hs2,c0,c1,c2⟩)
  have hlt:=HRow.out.lt
  have HJ2:=zy (HK.out _ _ _ HJ.out (hB2.mono (by omega)))
  have HR2:=zy (HRow.out.keep hB2)
  have y2c:=HR2.out.cell (i:=0) (v:= .func (.yield l) #[] #[]) rfl
  have HD2:Hid (∀D ∈ Ds,W0.heap.size≤D∧D<w2.heap.size∧w2.heap[D]? =some (.deferred (some []))):=zy (fun D hD=>by
   obtain ⟨h1,h2⟩:=HDs.out.2 D hD
   have h3:=(Array.getElem?_eq_some_iff.1 h2).1
   exact ⟨h1,by omega,(hB2.block D h3).trans h2⟩)
  have HC2:=zy (And.intro c0 (And.intro c1 c2))
  have e116: ∀args w,(callFunc 113 args).run Tryz.prog w= .ok (.enter 113 args) w:=enters_of Tryz.func113 (by kernel_rfl) rfl
  clear hB2 c0 c1 c2 cf cn
  refine zRk (gf:=113) (lb:= #[.pointer (some ⟨wr.heap.size+2,0,none⟩), .pointer (some ⟨wr.heap.size+1,0,none⟩), .pointer (some ⟨wr.heap.size,0,none⟩)]) rfl e116
   (fun W0' _ _=>zMQ (.pointer q) p g n (k:Int) (wr.heap.size+2) (wr.heap.size+1) wr.heap.size hn (by omega) W0') (fun _=>rfl)
   (fun s W=>J (upA p n k ++ s) W∧zAa W0.heap.size w2 W) (fun c s W=>c= .ret∧Jx (upA p n k ++ s) W∧zAa W0.heap.size w2 W) ?hI ?hIx ?hC ?h0 ?hround ?hdone ?hstop
  case hI=>exact fun s W W' h hb=>⟨HK.out _ _ _ h.1 (hb.mono (by omega)),h.2.below hb⟩
  case hIx=>exact fun c s W W' h hb=>⟨h.1,HKx.out _ _ _ h.2.1 (hb.mono (by omega)),h.2.2.below hb⟩
  case hC=>exact fun s W h=>⟨(HC.out _ _ h.1).1,h.2.cell (by simp;omega) HC2.out.2.2,h.2.cell (by simp;omega) HC2.out.2.1,h.2.cell (by simp;omega) HC2.out.1⟩
  case h0=>exact ⟨by rw [List.append_nil];exact HJ2.out,zAa.refl _ _⟩
  case hround=>
   rintro m2 pre ⟨K',N',A'⟩ W KK hsz ⟨hJW,hAb⟩ hpre hKK
   have HJW:=zy (And.intro hJW hAb)
   have HPre:=zy hpre
   have HKK:=zy hKK
   have hsw:=hAb.size
   clear hJW hAb hpre hKK
   simp only [encP]
   gi_wp2
   refine HKK.out _ _ ⟨HK.out _ _ _ HJW.out.1 ((Below.refl _ W).alloc (by omega) _),HJW.out.2.below ((Below.refl _ W).alloc (by omega) _)⟩ (zAa.of_below ((Below.refl _ W).alloc (Nat.le_refl _) _)) ?_
   intro W2 E hE _ _ hb hs hne
   have hs':W2.heap.size=W.heap.size+1:=by rw [hs];simp
   have hr2:zAI W2 W.heap.size 36 #[.int .i64 K', .int .i64 N', .int .i64 A']:=by
    unfold zAI
    rw [hne W.heap.size (by omega)]
    exact zAI.new W _ _
   have d0:=hr2.cell (i:=0) (v:= .int .i64 K') rfl
   have d1:=hr2.cell (i:=1) (v:= .int .i64 N') rfl
   have d2:=hr2.cell (i:=2) (v:= .int .i64 A') rfl
   have hA2:zAa W0.heap.size w2 W2:=(HJW.out.2.below ((Below.refl _ W).alloc (by omega) _)).below hb
   have yc:=hA2.cell (Nat.le_refl _) y2c
   have hJ2:J (upA p n k ++ pre) W2:=HK.out _ _ _ HJW.out.1 (((Below.refl _ W).alloc (by omega) _).trans (hb.mono (by omega)))
   obtain ⟨fn,tmps,assign,body,hy,hR⟩:=HY.out (m2-1) (upA p n k ++ pre) (K',N',A') W2 (by omega) hJ2 (by
    rw [List.append_assoc]
    refine List.IsPrefix.trans ((List.prefix_append_right_inj _).2 HPre.out) ?_
    rw [←HUS.out]
    exact HUP.out (k+1) 7 (by omega))
   have HA2:=zy hA2
   have HE:=zy hE
   simp only [encP] at hy
   clear hE hb hs hne hr2 hA2 hJ2
   gi_wp2
   refine ⟨fun h=>(by simp [Fence.wide] at h),(hR.inRound _).mono ?_⟩
   rintro e W3 ⟨(⟨rfl,h1⟩|⟨rfl,h1⟩),hA3⟩
   ·have HF:=zy (HE.out .normal · W3 ⟨⟨by rw [←List.append_assoc];exact h1,HA2.out.trans hA3⟩,hA3.mono (by omega)⟩)
    clear h1 hA3
    gi_wp2
    exact HF.out _
   ·have HF:=zy (HE.out .ret · W3 ⟨⟨rfl,by rw [←List.append_assoc];exact h1,HA2.out.trans hA3⟩,hA3.mono (by omega)⟩)
    clear h1 hA3
    gi_wp2
    exact HF.out _
  case hdone=>
   rintro W hsz ⟨hJW,hAb⟩ hD
   have hJW2:Hid (J (upA p n (k+1)) W):=zy (by rw [HUS.out];exact hJW)
   have HAb:=zy hAb
   clear hJW hAb
   gi_wp2
   refine ⟨⟨k+1,w2.heap.size :: Ds,_,_,_,_,_,_,_,_,_,_,_,_,_,_,rfl,by omega,List.nodup_cons.2 ⟨fun h=>(by have:=(HD2.out _ h).2.1;omega),HDs.out.1⟩,fun D hD'=>?_,hJW2.out,HAb.out.heap (Nat.le_refl _) HR2.out⟩,?_⟩
   ·rcases List.mem_cons.1 hD' with rfl|h
    ·exact ⟨by omega,hD⟩
    ·obtain ⟨h1,h2,h3⟩:=HD2.out D h
     exact ⟨h1,HAb.out.heap h1 h3⟩
   ·show 7-((k:Int)+1).toNat<7-(k:Int).toNat
    omega
  case hstop=>
   rintro c pre W hsz hpre ⟨rfl,hJx,hAb⟩ hD
   have HX:=zy (And.intro hpre (And.intro hJx hAb))
   clear hpre hJx hAb
   gi_wp2
   refine zL1 (B:=W0.heap.size) rfl (w2.heap.size :: Ds) W (List.nodup_cons.2 ⟨fun h=>(by have:=(HD2.out _ h).2.1;omega),HDs.out.1⟩) (fun D hD'=>?_) (fun v w' hb=>⟨⟨_,rfl⟩, .inr ⟨_,?_,HKx.out _ _ _ HX.out.2.1 hb⟩⟩)
   ·rcases List.mem_cons.1 hD' with rfl|h
    ·exact ⟨by omega,hD⟩
    ·obtain ⟨h1,h2,h3⟩:=HD2.out D h
     exact ⟨h1,HX.out.2.2.heap h1 h3⟩
   ·refine List.IsPrefix.trans ((List.prefix_append_right_inj _).2 HX.out.1) ?_
    rw [←HUS.out]
    exact HUP.out (k+1) 7 (by omega)
 ·have h7:k=7:=by omega
  subst h7
  have HJ:=zy hJ
  have HDs:=zy (And.intro hnd hDs)
  clear hJ hnd hDs hRow
  gi_wp2
  exact zL1 (B:=W0.heap.size) rfl Ds wr HDs.out.1 HDs.out.2 (fun v w' hb=>⟨⟨_,rfl⟩, .inl (HK.out _ _ _ HJ.out hb)⟩)
end

section
attribute [local go_sem] Oper.semAt_some
theorem zOt (q:Option Addr) (n:Int) (w:World):
  Calls Tryz.prog 23 #[.pointer q, .int .i64 n] w fun e w'=>e= .returned (.func (.func 61) #[] #[.pointer (some ⟨w.heap.size,0,none⟩), .pointer (some ⟨w.heap.size+1,0,none⟩)])∧Below w.heap.size w w'∧w'.heap.size=w.heap.size+2∧
   w'.cell? ⟨w.heap.size,0,none⟩=some (.pointer q)∧w'.cell? ⟨w.heap.size+1,0,none⟩=some (.int .i64 n):=by
 have R:=zy (lay2 w 29 3 #[.pointer q] #[.int .i64 n])
 have c0:=zy (R.out.1.cell (i:=0) (v:= .pointer q) rfl)
 have c1:=zy (R.out.2.1.cell (i:=0) (v:= .int .i64 n) rfl)
 go_enter Tryz.func23,Tryz.ntmps23
 go_wp2
 go_ret
 exact ⟨rfl,R.out.2.2,by simp,c0.out,c1.out⟩
noncomputable def chz (k:Int) (b x:PlT):PlT:=if (k= -1∨k=x.1)∧(b=(0,0,0)∨zEO x.1 x.2.1 x.2.2<zEO b.1 b.2.1 b.2.2) then x else b
noncomputable def chF (k:Int) (L:List PlT):PlT:=L.foldl (chz k) (0,0,0)
theorem zDM (k:Int) (L:List PlT) (x:PlT):chF k (L ++ [x])=chz k (chF k L) x:=by unfold chF;rw [List.foldl_append];rfl
def CanP (x:PlT):Prop:=canB x.1 x.2.1 x.2.2=true
theorem zNc {p K N A:Int} {x:PlT} (hN:1≤N∧N≤1024) (hp:chk p N 1024=0) (h:x ∈ one p K N A):CanP x:=by
 unfold one at h
 split at h
 ·rename_i hf
  rw [List.mem_singleton] at h
  subst h
  unfold fitI at hf
  rw [if_neg (by simp [hp])] at hf
  split at hf
  ·cases hf
  ·rename_i h2
   show canB K N A=true
   cases hcb:canB K N A with
   | true=>rfl
   | false=>exact absurd (.inl hcb) h2
 ·cases h
theorem zMI {p n:Int} {a:Nat} {x:PlT} (hn:1≤n∧n≤1024) (hp:chk p n 1024=0) (h:x ∈ of4 p n a):CanP x:=by
 unfold of4 at h
 obtain ⟨i,hi,rfl⟩:=List.mem_map.1 h
 have h2:=(List.mem_filter.1 hi).2
 rw [decide_eq_true_eq] at h2
 exact zNc (K:=4) (A:=(i:Int)) hn hp (by unfold one;rw [if_pos h2.2];exact List.mem_singleton.2 rfl)
theorem zBz {p n:Int} {x:PlT} (hn:1≤n∧n≤1024) (hp:chk p n 1024=0) (h:x ∈ allL p n):CanP x:=by
 unfold allL upA at h
 obtain ⟨k,_,hk⟩:=List.mem_flatMap.1 h
 unfold ofL at hk
 split at hk
 ·exact zMI hn hp hk
 ·split at hk
  ·exact zNc hn hp hk
  ·split at hk
   ·exact zNc hn hp hk
   ·exact zNc hn hp hk
theorem zDK (k:Int): ∀(L:List PlT) (b:PlT),(b=(0,0,0)∨CanP b)→(∀x ∈ L,CanP x)→L.foldl (chz k) b=(0,0,0)∨CanP (L.foldl (chz k) b)
 | [],b,hb,_=>hb
 | x :: L,b,hb,h=>by
  rw [List.foldl_cons]
  refine zDK k L _ ?_ (fun y hy=>h y (List.mem_cons_of_mem _ hy))
  unfold chz
  split
  ·exact .inr (h x List.mem_cons_self)
  ·exact hb
theorem zDJ (k:Int) (L:List PlT) (h: ∀x ∈ L,CanP x):chF k L=(0,0,0)∨CanP (chF k L):=zDK k L _ (.inl rfl) h
theorem zDk {x:PlT} (h:CanP x):x≠(0,0,0):=fun e=>by
 subst e
 have:(1:Int)≤0∧(0:Int)≤1024:=zDe h
 omega
end
end Go.Proofs.YtmalmijdjhkklaaGreat
