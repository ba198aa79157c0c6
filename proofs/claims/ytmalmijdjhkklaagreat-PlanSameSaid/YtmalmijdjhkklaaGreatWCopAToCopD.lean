/- coprime: small, part, In. -/
import Derived.Test.YtmalmijdjhkklaaGreatWMixCMixDMixE
import Derived.Test.YtmalmijdjhkklaaGreatPlA
import Derived.Test.YtmalmijdjhkklaaGreatWPlFToPlI
set_option linter.unusedVariables false
set_option linter.unusedSimpArgs false
set_option linter.unusedSectionVars false
section
/- coprime: small, part, In. -/
namespace Go.Proofs.YtmalmijdjhkklaaGreat
open Go.RowKit
open Alg
set_option maxHeartbeats 2000000 in
theorem zEW (a b:Nat) (ha:0<a) (hb:0<b) (hab:a*b≤1024) (w:World):Calls Tryz.prog 177 #[.int .i64 (a:Int), .int .i64 (b:Int)] w fun e w'=>e= .returned (.bool true)∧w=w':=by
 obtain ⟨q,hq⟩: ∃q,q=1024/b:=⟨_,rfl⟩
 have haq:a≤q:=by rw [hq];exact (Nat.le_div_iff_mul_le hb).2 hab
 have hq1:q≤1024:=by rw [hq];exact Nat.div_le_self _ _
 have q2:(1024:Int).tdiv (b:Int)=(q:Int):=by rw [Int.tdiv_eq_ediv_of_nonneg (by omega),hq];rfl
 have wq:IntKind.i64.wrap (q:Int)=(q:Int):=IntWalk.i64_in _ (by omega)
 have hne: ¬b=0:=by omega
 have tz:((b:Int) == 0)=false:=by simp;omega
 have t1:decide ((a:Int)>0)=true:=decide_eq_true (by omega)
 have t1b:decide (0<a)=true:=decide_eq_true ha
 have t2:decide ((b:Int)>0)=true:=decide_eq_true (by omega)
 have t2b:decide (0<b)=true:=decide_eq_true hb
 have t3:decide ((a:Int)≤(q:Int))=true:=decide_eq_true (by omega)
 have t3b:decide (a≤q)=true:=decide_eq_true haq
 clear hq
 go_enter Tryz.func177,Tryz.ntmps177
 go_wp2
 go_ret
 exact ⟨rfl,rfl⟩
set_option maxHeartbeats 2000000 in
theorem zNR {p:Nat} [NeZero p] {w:World} {v:Value} {g:Int} (hp:Prime p) (hg:Ord (zt p g) (p-1)) (g0:0≤g) (g1:g<p) (h:Fd w w.heap.size v p g) (A:Option Addr) (c:Nat) (L:List Int) (inv:Bool) (hU:U64s L) (hR:RdI w w.heap.size .u64 A L) (hc:chk p L.length 1024=0) (hgd:zI1 p L=true):
  Calls Tryz.prog 178 #[v, .slice A L.length c, .bool inv] w fun e w'=> ∃V,e= .returned V∧OwnU w' w.heap.size V L.length (lst L.length (tr (zt p g) L.length inv (rz p L)))∧Below w.heap.size w w':=by
 obtain ⟨n1,n2,_⟩:=zEq hc
 by_cases hr:zQD L.length=true
 ·have hM:=Lib.hid (zL9 hp hg g0 g1 h A c L inv hU hR (by unfold zGN;rw [if_neg (by simp [hc]),if_neg (by simp [hr]),if_neg (by simp [hgd])]))
  clear h hR hU hc hgd hr
  go_enter Tryz.func178,Tryz.ntmps178
  go_wp2_with fail
  refine hM.out.mono ?_
  rintro e w1 ⟨V,rfl,hO,hB⟩
  have HO:=Lib.hid hO
  clear hO
  go_wp2
  go_ret
  exact ⟨_,rfl,HO.out,hB⟩
 ·have hr':zQD L.length=false:=by simpa using hr
  have hf:zGN p L=11:=by unfold zGN;rw [if_neg (by simp [hc]),if_pos hr']
  have hM:=Lib.hid (zL8 h A c L inv (by omega) hU hR (by rw [hf];decide))
  rw [hf] at hM
  have hD:=Lib.hid (fun wz (hz:Below w.heap.size w wz)=>zF2 hp hg g0 g1 ((h.below hz).mono hz.size) A c L inv hU ((hR.below hz).mono hz.size) (by unfold zGB;rw [if_neg (by simp [hc]),if_neg (by simp [hgd])]))
  clear h hR hU hc hgd hr hr' hf
  go_enter Tryz.func178,Tryz.ntmps178
  go_wp2_with fail
  refine hM.out.mono ?_
  rintro e w1 ⟨rfl,hB⟩
  go_wp2_with fail
  refine (hD.out w1 hB).mono ?_
  rintro e w2 ⟨V,rfl,hO,hB2⟩
  have HO:=Lib.hid (hO.mono hB.size)
  have HB:=Lib.hid (hB.trans (hB2.mono hB.size))
  clear hO hB2
  go_wp2
  go_ret
  exact ⟨_,rfl,HO.out,HB.out⟩
def inL (a b k:Nat):List Nat:=(List.range k).map (inP a b)
theorem zJb (a b k:Nat):inL a b (k+1)=inL a b k ++ [inP a b k]:=by unfold inL;rw [List.range_succ,List.map_append];rfl
theorem zJa (a b k:Nat):(inL a b k).length=k:=by simp [inL]
set_option maxHeartbeats 4000000 in
theorem zEz (a b:Nat) (ha:0<a) (hb:0<b) (hab:a*b≤1024) (hc:copB ((a*b:Nat):Int) (a:Int)=true) (w:World):
  Calls Tryz.prog 125 #[.int .i64 (a:Int), .int .i64 (b:Int)] w fun e w'=> ∃V,e= .returned V∧w'.ownsRow w.heap.size 3 1 V (a*b) (ints .i64 (zDm (inL a b (a*b))))∧Below w.heap.size w w':=by
 obtain ⟨ii,hii,hy0,hy1,hy2⟩:=info_parts zJn
 have hbn:b≤a*b:=Nat.le_mul_of_pos_left _ ha
 have han:a≤a*b:=Nat.le_mul_of_pos_right _ hb
 have hS:=Lib.hid (fun W=>zEW a b ha hb hab W)
 have hF:=Lib.hid (fun W=>zDD ((a*b:Nat):Int) (a:Int) (by omega) (by omega) (by omega) (by omega) W)
 rw [hc] at hF
 have HSu:=Lib.hid (fun k=>zJb a b k)
 have HP:Hid (∀i j,i<a→j<b→inP a b (i*b+j)=(b*i+a*j)%(a*b)∧i*b+b≤a*b):=Lib.hid (fun i j hi hj=>by
  have h1:(i*b+j)/b=i:=by rw [Nat.mul_comm,Nat.mul_add_div hb,Nat.div_eq_of_lt hj];rfl
  have h2:(i*b+j)%b=j:=by rw [Nat.add_comm,Nat.add_mul_mod_self_right,Nat.mod_eq_of_lt hj]
  refine ⟨by unfold inP;rw [h1,h2],?_⟩
  have:=Nat.mul_le_mul_right b hi
  rw [Nat.succ_mul] at this
  exact this)
 have HLe:=Lib.hid (fun k=>zJa a b k)
 have HE:Hid (∀i,i*b+b=(i+1)*b):=Lib.hid (fun i=>by rw [Nat.add_mul,Nat.one_mul])
 obtain ⟨n,hn⟩: ∃n,n=a*b:=⟨_,rfl⟩
 have en:(a:Int)*(b:Int)=(n:Int):=by rw [hn,Int.natCast_mul]
 rw [←hn] at hF HP hab hbn han ⊢
 have HN:=Lib.hid hn
 have wn:IntKind.i64.wrap (n:Int)=(n:Int):=IntWalk.i64_in _ (by omega)
 clear hc hn
 go_enter Tryz.func125,Tryz.ntmps125
 go_wp2_with fail
 refine (hS.out _).mono ?_
 rintro e w1 ⟨rfl,rfl⟩
 go_wp2_with fail
 refine (hF.out _).mono ?_
 rintro e w1 ⟨rfl,q,rfl⟩
 go_wp2_with (refine wpList_make_own _ rfl _ _ 78 rfl w.heap.size 3 ii (.int .i64 0) 1 Tryz.underlying78 hii hy0 hy1 _ _ _ n rfl rfl rfl ?b2 ?b3 (by simp) ?_)
 case b2=>rw [hy2];omega
 case b3=>unfold maxLen;omega
 intro w3 hown hgrow
 have hB3:Below w.heap.size w w3:=(below_drewN (Below.refl _ _) q).grown hgrow (by simp) (fun k h=>by cases h)
 have HO3:Hid (w3.ownsRow w.heap.size 3 1 (.slice (some ⟨w.heap.size,0,none⟩) 0 n) (0*b) (ints .i64 (zDm (inL a b (0*b))))):=Lib.hid (by rw [Nat.zero_mul];exact hown)
 clear hown hgrow
 go_wp2
 go_loopw [6,25] (fun O I wr=> ∃i:Nat,I= .int .i64 i∧i≤a∧Hid (wr.ownsRow w.heap.size 3 1 O (i*b) (ints .i64 (zDm (inL a b (i*b)))))∧Below w.heap.size w wr) (fun _ I _=>a-(intOf I).toNat)
 case atStart=>exact ⟨0,rfl,by omega,HO3,hB3⟩
 case round=>
  clear HO3 hB3
  obtain ⟨i,rfl,hi,hO,hB⟩:=hrel
  by_cases hlt:i<a
  ·have ti:decide ((i:Int)<(a:Int))=true:=decide_eq_true (by omega)
   rw [←Nat.add_zero (i*b)] at hO
   go_wp2
   go_loopw [6,29] (fun O I wr=> ∃j:Nat,I= .int .i64 j∧j≤b∧Hid (wr.ownsRow w.heap.size 3 1 O (i*b+j) (ints .i64 (zDm (inL a b (i*b+j)))))∧Below w.heap.size w wr) (fun _ I _=>b-(intOf I).toNat)
   case atStart=>exact ⟨0,rfl,by omega,hO,hB⟩
   case round=>
    clear hO hB
    obtain ⟨j,rfl,hj,hO,hB⟩:=hrel
    by_cases hjb:j<b
    ·have tj:decide ((j:Int)<(b:Int))=true:=decide_eq_true (by omega)
     obtain ⟨hv,hib⟩:=HP.out i j hlt hjb
     obtain ⟨y1,hy1'⟩: ∃y,y=b*i:=⟨_,rfl⟩
     have ey1:(b:Int)*(i:Int)=(y1:Int):=by rw [hy1',Int.natCast_mul]
     obtain ⟨y2,hy2'⟩: ∃y,y=a*j:=⟨_,rfl⟩
     have ey2:(a:Int)*(j:Int)=(y2:Int):=by rw [hy2',Int.natCast_mul]
     have b1:y1≤1048576:=by rw [hy1'];exact Nat.le_trans (Nat.mul_le_mul (by omega:b≤1024) (by omega:i≤1024)) (by omega)
     have b2:y2≤1048576:=by rw [hy2'];exact Nat.le_trans (Nat.mul_le_mul (by omega:a≤1024) (by omega:j≤1024)) (by omega)
     rw [←hy1',←hy2'] at hv
     obtain ⟨y,hy⟩: ∃y,y=y1+y2:=⟨_,rfl⟩
     have ey:(y1:Int)+(y2:Int)=(y:Int):=by omega
     rw [←hy] at hv
     obtain ⟨z,hz⟩: ∃z,z=y%n:=⟨_,rfl⟩
     have ez:(y:Int).tmod (n:Int)=(z:Int):=by rw [Int.tmod_eq_emod_of_nonneg (by omega),hz];omega
     rw [←hz] at hv
     have hzn:z<n:=by rw [hz];exact Nat.mod_lt _ (by omega)
     have HS:=Lib.hid (HSu.out (i*b+j))
     rw [hv] at HS
     have hll:=HLe.out (i*b+j)
     have wa:IntKind.i64.wrap (y1:Int)=(y1:Int):=IntWalk.i64_in _ (by omega)
     have wb:IntKind.i64.wrap (y2:Int)=(y2:Int):=IntWalk.i64_in _ (by omega)
     have wc:IntKind.i64.wrap (y:Int)=(y:Int):=IntWalk.i64_in _ (by omega)
     have wd:IntKind.i64.wrap (z:Int)=(z:Int):=IntWalk.i64_in _ (by omega)
     have tz:((n:Int) == 0)=false:=by simp;omega
     have nz: ¬n=0:=by omega
     obtain ⟨k,hk⟩: ∃k,k=i*b+j:=⟨_,rfl⟩
     have hkn:k≤2048:=by omega
     rw [←hk] at hO HS hll
     have HK:=Lib.hid hk
     have hown:=hO.out
     clear hy1' hy2' hy hz hv hk hO hib
     go_wp2_with (at_builtin;refine wpList_append_own _ rfl _ _ 78 rfl w.heap.size 3 ii (.int .i64 0) 1 8 Tryz.underlying78 hii hy0 hy1 hy2 rfl (by decide) _ _ _ rfl (hown.alloc _) ⟨wr.heap.size,0,none⟩ 1 1 [.int .i64 (z:Int)] rfl rfl ?c1 ?c2 ?c3 ?c4 ?c5 ?_)
     case c1=>
      intro l u hl
      match l,hl with
      | 0,hl=>simp at hl;subst hl;simp [Addr.add]
     case c2=>intro u hu;simp at hu;subst hu;rfl
     case c3=>unfold maxLen;omega
     case c4=>omega
     case c5=>have:=hB.size;simp;omega
     intro v' w6 hown' hgrow _
     rw [←zDp,←HS.out] at hown'
     have hB':=(hB.alloc hB.size (.cells #[.int .i64 (z:Int)] 3)).grown hgrow (by have:=hB.size;simp;omega) (fun k hk=>(hown.lt k hk).1)
     have HO':Hid (w6.ownsRow w.heap.size 3 1 v' (i*b+(j+1)) (ints .i64 (zDm (inL a b (i*b+(j+1)))))):=Lib.hid (by
      rw [←Nat.add_assoc,←HK.out];exact hown')
     clear hown' hgrow hown hB
     go_wp2
     go_roundw
     case rel=>exact ⟨j+1,by go_num,by omega,HO',hB'⟩
     case measure=>simp [intOf];omega
    ·obtain rfl:b=j:=by omega
     have tj:decide ((b:Int)<(b:Int))=false:=by simp
     have HO':Hid (wr.ownsRow w.heap.size 3 1 _ ((i+1)*b) (ints .i64 (zDm (inL a b ((i+1)*b))))):=Lib.hid (by rw [←HE.out i];exact hO.out)
     clear hO
     go_wp2
     go_roundw
     case rel=>exact ⟨i+1,by go_num,by omega,HO',hB⟩
     case measure=>simp [intOf];omega
  ·obtain rfl:a=i:=by omega
   have ti:decide ((a:Int)<(a:Int))=false:=by simp
   have HO':Hid (wr.ownsRow w.heap.size 3 1 _ n (ints .i64 (zDm (inL a b n)))):=Lib.hid (by rw [HN.out];exact hO.out)
   clear hO
   go_wp2
   go_ret
   exact ⟨_,rfl,HO'.out,hB⟩
end Go.Proofs.YtmalmijdjhkklaaGreat
end

section
/- coprime: Out, lines. -/
namespace Go.Proofs.YtmalmijdjhkklaaGreat
open Go.RowKit
open Alg
def OwnI (w:World) (B:Nat) (v:Value) (n:Nat) (L:List Int):Prop:=w.ownsRow B 3 1 v n (ints .i64 L)
theorem OwnI.len {w:World} {B:Nat} {v:Value} {n:Nat} {L:List Int} (h:OwnI w B v n L):L.length=n:=by
 have:=h.1
 rw [zJ3] at this
 omega
theorem OwnI.set {w:World} {B G c n:Nat} {L:List Int} (h:OwnI w B (.slice (some ⟨G,0,none⟩) n c) n L) (k:Nat) (hk:k<n) (x:Int):
  OwnI (w.setCell ⟨G,k,none⟩ (.int .i64 x)) B (.slice (some ⟨G,0,none⟩) n c) n (L.set k x)∧w.cell? ⟨G,k,none⟩=some (.int .i64 (L.getD k 0))∧w.frozen? ⟨G,k,none⟩=false∧B≤G:=by
 have hl:=h.len
 refine ⟨?_,?_,World.ownsRow.frozenAt h k,(World.ownsRow.lt h G rfl).1⟩
 ·have:=World.ownsRow.stored h k (.int .i64 x)
  rw [zJ7] at this
  exact this.1
 ·rw [World.ownsRow.cellAt h k (by omega)]
  simp [ints,List.getD_eq_getElem?_getD,hl,hk]
def outF (a b k:Nat):Int:=((k%a*b+k%b:Nat):Int)
def zAk (b i j:Nat) (x y:Int):Prop:= ∃i' j':Nat,x=(i':Int)∧y=(j':Int)∧j'<b∧(i'<i∨(i'=i∧j'<j))
theorem zFP {b i j:Nat} (hj:j<b) (x y:Int):zAk b i (j+1) x y↔zAk b i j x y∨(x=(i:Int)∧y=(j:Int)):=by
 constructor
 ·rintro ⟨i',j',rfl,rfl,h1,h2⟩
  by_cases h:i'=i∧j'=j
  ·exact .inr ⟨by omega,by omega⟩
  ·exact .inl ⟨i',j',rfl,rfl,h1,by omega⟩
 ·rintro (⟨i',j',rfl,rfl,h1,h2⟩|⟨rfl,rfl⟩)
  ·exact ⟨i',j',rfl,rfl,h1,by omega⟩
  ·exact ⟨i,j,rfl,rfl,hj,by omega⟩
theorem zFM {b i j:Nat}: ¬zAk b i j (i:Int) (j:Int):=by
 rintro ⟨i',j',h1,h2,_,h3⟩
 omega
theorem zAA.congr {f:Int→Int→Int} {D D':Int→Int→Prop} {w:World} {bm:Nat} (h:zAA f D w bm) (hD: ∀x y,D x y↔D' x y):zAA f D' w bm:=by
 obtain ⟨ms,clock,hm,hs,hx,hy⟩:=h
 exact ⟨ms,clock,hm,hs,fun x h=>by obtain ⟨i,j,a,b,c⟩:=hx x h;exact ⟨i,j,a,b,(hD i j).1 c⟩,fun i j h=>hy i j ((hD i j).2 h)⟩
theorem zFO {b i:Nat} (x y:Int):zAk b i b x y↔zAk b (i+1) 0 x y:=
 ⟨fun ⟨i',j',a,c,h1,h2⟩=>⟨i',j',a,c,h1,by omega⟩,fun ⟨i',j',a,c,h1,h2⟩=>⟨i',j',a,c,h1,by omega⟩⟩
theorem zFN {b:Nat} (x y:Int):False↔zAk b 0 0 x y:=⟨fun h=>h.elim,fun ⟨i',j',_,_,_,h2⟩=>by omega⟩
set_option maxHeartbeats 4000000 in
set_option maxRecDepth 100000 in
theorem zEP (a b:Nat) (ha:0<a) (hb:0<b) (hab:a*b≤1024) (hc:copB ((a*b:Nat):Int) (a:Int)=true) (w:World):
  Calls Tryz.prog 127 #[.int .i64 (a:Int), .int .i64 (b:Int)] w fun e w'=> ∃V,e= .returned V∧OwnI w' w.heap.size V (a*b) (full (a*b) (outF a b))∧Below w.heap.size w w':=by
 obtain ⟨ii,hii,hy0,hy1,hy2⟩:=info_parts zJn
 have hbn:b≤a*b:=Nat.le_mul_of_pos_left _ ha
 have han:a≤a*b:=Nat.le_mul_of_pos_right _ hb
 have hS:=Lib.hid (fun W=>zEW a b ha hb hab W)
 have hF:=Lib.hid (fun W=>zDD ((a*b:Nat):Int) (a:Int) (by omega) (by omega) (by omega) (by omega) W)
 rw [hc] at hF
 have HP:Hid (∀i,i<a→i*b+b≤a*b):=Lib.hid (fun i hi=>by
  have:=Nat.mul_le_mul_right b hi
  rw [Nat.succ_mul] at this
  exact this)
 obtain ⟨n,hn⟩: ∃n,n=a*b:=⟨_,rfl⟩
 have en:(a:Int)*(b:Int)=(n:Int):=by rw [hn,Int.natCast_mul]
 rw [←hn] at hF HP hab hbn han ⊢
 have wn:IntKind.i64.wrap (n:Int)=(n:Int):=IntWalk.i64_in _ (by omega)
 have hmk: ∀W,(Instr.makeMap 213 none).run Tryz.prog W= .ok (.map (some W.heap.size)) (W.alloc (.map #[] 0)):=fun W=>by simp [Instr.makeMap,Result.andThen]
 clear hc hn
 go_enter Tryz.func127,Tryz.ntmps127
 go_wp2_with fail
 refine (hS.out _).mono ?_
 rintro e w1 ⟨rfl,rfl⟩
 go_wp2_with fail
 refine (hF.out _).mono ?_
 rintro e w1 ⟨rfl,q,rfl⟩
 have hPl:=Lib.hid ((zOj (fun x y=>x*(b:Int)+y) (w.drewN q)).congr (zFN (b:=b)))
 have hB3:Below w.heap.size w ((w.drewN q).alloc (.map #[] 0)):=(below_drewN (Below.refl _ _) q).alloc (by simp) _
 have hsz:(w.drewN q).heap.size=w.heap.size:=by simp
 rw [hsz] at hPl
 obtain ⟨bm,hbm⟩: ∃bm,bm=w.heap.size:=⟨_,rfl⟩
 have hbe:w.heap.size≤bm:=by omega
 have hmk2:=hmk (w.drewN q)
 rw [hsz,←hbm] at hmk2
 rw [←hbm] at hPl
 clear hmk hbm hsz
 go_wp2
 go_loopw [26] (fun I wr=> ∃i:Nat,I= .int .i64 i∧i≤a∧Hid (zAA (fun x y=>x*(b:Int)+y) (zAk b i 0) wr bm)∧Hid (Below w.heap.size w wr)) (fun I _=>a-(intOf I).toNat)
 case atStart=>exact ⟨0,rfl,by omega,hPl,Lib.hid hB3⟩
 case round=>
  clear hPl hB3 hmk2
  obtain ⟨i,rfl,hi,hPl,hB⟩:=hrel
  by_cases hlt:i<a
  ·have ti:decide ((i:Int)<(a:Int))=true:=decide_eq_true (by omega)
   go_wp2
   go_loopw [30] (fun I wr=> ∃j:Nat,I= .int .i64 j∧j≤b∧Hid (zAA (fun x y=>x*(b:Int)+y) (zAk b i j) wr bm)∧Hid (Below w.heap.size w wr)) (fun I _=>b-(intOf I).toNat)
   case atStart=>exact ⟨0,rfl,by omega,hPl,hB⟩
   case round=>
    clear hPl hB
    obtain ⟨j,rfl,hj,hPl,hB⟩:=hrel
    by_cases hjb:j<b
    ·have tj:decide ((j:Int)<(b:Int))=true:=decide_eq_true (by omega)
     have hib:=HP.out i hlt
     obtain ⟨w5,hmu,hP5,hbt⟩:=zOh hPl.out (i:=(i:Int)) (j:=(j:Int)) (D':=zAk b i (j+1)) zFM (zFP hjb)
     unfold zNL at hmu
     try dsimp only at hmu
     obtain ⟨y1,hy1'⟩: ∃y,y=i*b:=⟨_,rfl⟩
     have ey1:(i:Int)*(b:Int)=(y1:Int):=by rw [hy1',Int.natCast_mul]
     rw [←hy1'] at hib
     rw [ey1] at hmu
     have wa:IntKind.i64.wrap (y1:Int)=(y1:Int):=IntWalk.i64_in _ (by omega)
     have wb:IntKind.i64.wrap ((y1:Int)+(j:Int))=(y1:Int)+(j:Int):=IntWalk.i64_in _ (by omega)
     have HP5:=Lib.hid hP5
     have HB5:=Lib.hid (hB.out.trans (hbt.below hB.out.size hbe))
     clear hy1' hP5 hbt hPl hB
     go_wp2
     go_roundw
     case rel=>exact ⟨j+1,by go_num,by omega,HP5,HB5⟩
     case measure=>simp [intOf];omega
    ·obtain rfl:b=j:=by omega
     have tj:decide ((b:Int)<(b:Int))=false:=by simp
     have hP2:=Lib.hid (hPl.out.congr zFO)
     clear hPl
     go_wp2
     go_roundw
     case rel=>exact ⟨i+1,by go_num,by omega,hP2,hB⟩
     case measure=>simp [intOf];omega
  ·obtain rfl:a=i:=by omega
   have ti:decide ((a:Int)<(a:Int))=false:=by simp
   go_wp2_with (at_make;refine wpList_make_full _ rfl _ _ 78 rfl w.heap.size 3 ii (.int .i64 0) 1 Tryz.underlying78 hii hy0 hy1 _ _ _ _ n rfl rfl ?l1 ?l2 ?b2 ?b3 hB.out.size ?_)
   case l1=>omega
   case l2=>omega
   case b2=>rw [hy2];omega
   case b3=>unfold maxLen;omega
   intro w8 hown hgrow
   have hB8:Hid (Below w.heap.size w w8):=Lib.hid (hB.out.grown hgrow hB.out.size (fun k h=>by cases h))
   have hB9:Below wr.heap.size wr w8:=(Below.refl _ _).grown hgrow (Nat.le_refl _) (fun k h=>by cases h)
   have hP8:=Lib.hid (hPl.out.below hB9)
   have hbl:=hPl.out.lt
   have hO8:Hid (OwnI w8 w.heap.size (.slice (some ⟨wr.heap.size,0,none⟩) n n) n (part n (outF a b) 0)):=Lib.hid (by
    unfold OwnI
    rw [zNW,zJC,←toList_madeCells_one];exact hown)
   obtain ⟨G,hG⟩: ∃G,G=wr.heap.size:=⟨_,rfl⟩
   rw [←hG] at hO8 hbl
   rw [←hG]
   have hGe:w.heap.size≤G:=by rw [hG];exact hB.out.size
   clear hown hgrow hB9 hG hPl hB
   go_wp2
   go_loopw [48] (fun I wr=> ∃k:Nat,I= .int .i64 k∧k≤n∧Hid (zAA (fun x y=>x*(b:Int)+y) (zAk b a 0) wr bm)∧Hid (OwnI wr w.heap.size (.slice (some ⟨G,0,none⟩) n n) n (part n (outF a b) k))∧Hid (Below w.heap.size w wr)) (fun I _=>n-(intOf I).toNat)
   case atStart=>exact ⟨0,rfl,by omega,hP8,hO8,hB8⟩
   case round=>
    clear hP8 hO8 hB8
    obtain ⟨k,rfl,hk,hPl,hO,hB⟩:=hrel
    by_cases hkn:k<n
    ·have tk:decide ((k:Int)<(n:Int))=true:=decide_eq_true (by omega)
     obtain ⟨c2,f2⟩:=(hO.out.set k hkn 0).2
     have hst:=zNV (n:=n) (f:=outF a b) (k:=k)
     obtain ⟨x,hx⟩: ∃x,x=k%a:=⟨_,rfl⟩
     obtain ⟨y,hy⟩: ∃y,y=k%b:=⟨_,rfl⟩
     have hxa:x<a:=by rw [hx];exact Nat.mod_lt _ ha
     have hyb:y<b:=by rw [hy];exact Nat.mod_lt _ hb
     have ex:(k:Int).tmod (a:Int)=(x:Int):=by rw [Int.tmod_eq_emod_of_nonneg (by omega),hx];omega
     have eyy:(k:Int).tmod (b:Int)=(y:Int):=by rw [Int.tmod_eq_emod_of_nonneg (by omega),hy];omega
     have hlk: ∀q,(Instr.lookup 213 (.map (some bm)) (.agg #[.int .i64 (x:Int), .int .i64 (y:Int)]) false).run Tryz.prog (wr.drewN q)= .ok (.int .i64 ((x:Int)*(b:Int)+(y:Int))) (wr.drewN q):=fun q=>zOi (hPl.out.below (below_drewN (Below.refl _ _) q)) ⟨x,y,rfl,rfl,hyb, .inl hxa⟩
     have hz':outF a b k=(x:Int)*(b:Int)+(y:Int):=by unfold outF;rw [←hx,←hy,Int.natCast_add,Int.natCast_mul]
     rw [hz'] at hst
     obtain ⟨z,hz⟩: ∃z,z=(x:Int)*(b:Int)+(y:Int):=⟨_,rfl⟩
     rw [←hz] at hlk hst
     have HST:=Lib.hid hst
     have ta:((a:Int) == 0)=false:=by simp;omega
     have tb:((b:Int) == 0)=false:=by simp;omega
     have na: ¬a=0:=by omega
     have nb: ¬b=0:=by omega
     have wx:IntKind.i64.wrap (x:Int)=(x:Int):=IntWalk.i64_in _ (by omega)
     have wy:IntKind.i64.wrap (y:Int)=(y:Int):=IntWalk.i64_in _ (by omega)
     have i1:(0:Int)≤(k:Int):=by omega
     have i2:(k:Int)<(n:Int):=by omega
     clear hx hy hz hz' hst
     go_upto_region 18 with fail
     refine zWM 11 (by kernel_rfl) (by kernel_rfl) ?_
     simp only [List.take_succ_cons,List.take_zero,List.drop_succ_cons,List.drop_zero]
     repeat (go_big_quiet_step (fail))
     refine wpQuiet_nil ?_
     intro _ hw'
     obtain ⟨nq,hw''⟩:=hw'
     subst hw''
     have hO0:OwnI (wr.drewN nq) w.heap.size (.slice (some ⟨G,0,none⟩) n n) n (part n (outF a b) k):=hO.out
     have hO1:=(hO0.set k hkn z).1
     rw [HST.out] at hO1
     have HO1:=Lib.hid hO1
     have HB1:=Lib.hid (zCn (below_drewN hB.out nq) hGe k (.int .i64 z))
     have HP1:Hid (zAA (fun x y=>x*(b:Int)+y) (zAk b a 0) ((wr.drewN nq).setCell ⟨G,k,none⟩ (.int .i64 z)) bm):=Lib.hid (by
      obtain ⟨ms,clock,hm,hr⟩:=hPl.out
      exact ⟨ms,clock,(heap_setCell_other _ _ _ _ (by simp;omega)).trans hm,hr⟩)
     clear hO1 hO0 hO hB hPl hlk
     go_wp2
     go_roundw
     case rel=>exact ⟨k+1,by go_num,by omega,HP1,HO1,HB1⟩
     case measure=>simp [intOf];omega
    ·obtain rfl:n=k:=by omega
     have tk:decide ((n:Int)<(n:Int))=false:=by simp
     have hO1:=hO.out
     rw [zNT] at hO1
     have HO:=Lib.hid hO1
     clear hO hO1 hPl
     go_wp2
     go_ret
     exact ⟨_,rfl,HO.out,hB.out⟩
end Go.Proofs.YtmalmijdjhkklaaGreat
end

section
/- coprime: lines. -/
namespace Go.Proofs.YtmalmijdjhkklaaGreat
open Go.RowKit
open Alg
theorem zVj {p:Nat} [NeZero p] {g:Fin p} {n:Nat} {inv:Bool} {a b:Nat→Fin p} (h: ∀j,j<n→a j=b j) (i:Nat):tr g n inv a i=tr g n inv b i:=by
 unfold tr;rw [dft_congr h]
set_option maxHeartbeats 8000000 in
set_option maxRecDepth 100000 in
theorem lines_any {p:Nat} [NeZero p] {w:World} {v:Value} {g:Int} (hp:Prime p) (hg:Ord (zt p g) (p-1)) (g0:0≤g) (g1:g<p) (B0 B G c N starts step len far:Nat) (inv:Bool) (T:Nat→Fin p) (h:Fd w B0 v p g) (hB0:B0≤G) (hG:G<w.heap.size) (hN:N≤1024)
  (hs4:starts≤1024) (ht4:step≤1024) (hf4:far≤1024) (hc:chk p len 1024=0) (hrng: ∀s k,s<starts→k<len→s*step+k*far<N)
  (hinj: ∀s k s' k',s<starts→k<len→s'<starts→k'<len→s*step+k*far=s'*step+k'*far→s=s'∧k=k') (hO:OwnU w B (.slice (some ⟨G,0,none⟩) N c) N (lst N T)):
  Calls Tryz.prog 126 #[v, .slice (some ⟨G,0,none⟩) N c, .int .i64 (starts:Int), .int .i64 (step:Int), .int .i64 (len:Int), .int .i64 (far:Int), .bool inv] w fun e w'=>(∃u,e= .returned u)∧ ∃T',OwnU w' B (.slice (some ⟨G,0,none⟩) N c) N (lst N T')∧But G w w'∧
   Hid (∀s k,s<starts→k<len→T' (s*step+k*far)=tr (zt p g) len inv (fun j=>T (s*step+j*far)) k):=by
 obtain ⟨i0,hi,hz0,hz1,hz2⟩:=info_parts zJt
 have HPM:=Lib.hid (And.intro h.p3 h.pmx)
 obtain ⟨n1,n2,_⟩:=zEq hc
 have HRng:=Lib.hid hrng
 have HInj:=Lib.hid hinj
 have HPt:Hid (∀(wz:World) (A:Option Addr) (cA:Nat) (F:Nat→Fin p),But G w wz→RdI wz wz.heap.size .u64 A (lst len F)→Calls Tryz.prog 178 #[v, .slice A len cA, .bool inv] wz fun e w'=> ∃V,e= .returned V∧OwnU w' wz.heap.size V len (lst len (tr (zt p g) len inv F))∧Below wz.heap.size wz w'):=Lib.hid (fun wz A cA F hz hA=>by
  have h1:=zNR hp hg g0 g1 ((h.below (hz.below (by omega) hB0)).mono (by have:=hz.size;omega)) A cA (lst len F) inv (zLd h.pmx _ _) hA (by rw [zLb];exact hc) (zKZ _ _)
  rw [zLb] at h1
  rw [show lst len (tr (zt p g) len inv (rz p (lst len F)))=lst len (tr (zt p g) len inv F) from zKW fun i _=>zVj (fun j hj=>zSG hj) i] at h1
  exact h1)
 have HG:=Lib.hid hG
 have HQ0:Hid (But G w w∧OwnU w B (.slice (some ⟨G,0,none⟩) N c) N (lst N T)):=Lib.hid ⟨But.refl _ _,hO⟩
 have H0:Hid (∀s k,s<0→k<len→T (s*step+k*far)=tr (zt p g) len inv (fun j=>T (s*step+j*far)) k):=Lib.hid (fun s k hs=>absurd hs (Nat.not_lt_zero _))
 have hl4:len≤1024:=by omega
 have hl0:0<len:=by omega
 clear h hO hc hrng hinj hG hp hg g0 g1 hB0 n1 n2
 go_enter Tryz.func126,Tryz.ntmps126
 go_wp2
 go_loopw [20] (fun I wr=> ∃(s:Nat) (T':Nat→Fin p),I= .int .i64 s∧s≤starts∧Hid (∀s' k,s'<s→k<len→T' (s'*step+k*far)=tr (zt p g) len inv (fun j=>T (s'*step+j*far)) k)∧
  Hid (∀s' k,s≤s'→s'<starts→k<len→T' (s'*step+k*far)=T (s'*step+k*far))∧Hid (But G w wr∧OwnU wr B (.slice (some ⟨G,0,none⟩) N c) N (lst N T'))) (fun I _=>starts-(intOf I).toNat)
 case atStart=>exact ⟨0,T,rfl,by omega,H0,Lib.hid (fun _ _ _ _ _=>rfl),HQ0⟩
 case round=>
  clear HQ0 H0
  obtain ⟨s,T',rfl,hs,hnew,hold,hQ⟩:=hrel
  by_cases hlt:s<starts
  ·have ti:decide ((s:Int)<(starts:Int))=true:=decide_eq_true (by omega)
   go_wp2_with (at_make;refine wpList_make_full _ rfl _ _ 54 rfl wr.heap.size 22 i0 (.int .u64 0) 1 Tryz.underlying54 hi hz0 hz1 _ _ _ _ len rfl rfl ?l1 ?l2 ?b2 ?b3 (Nat.le_refl _) ?_)
   case l1=>omega
   case l2=>omega
   case b2=>rw [hz2];omega
   case b3=>unfold maxLen;omega
   intro w3 hown hgrow
   have hGr:G<wr.heap.size:=by have:=hQ.out.1.size;have:=HG.out;omega
   have HL3:Hid (R2 wr wr.heap.size len len (lst len (fun _=>(0:Fin p))) w3):=Lib.hid ⟨(Below.refl _ _).grown hgrow (Nat.le_refl _) (fun k h=>by cases h),zLs hown⟩
   obtain ⟨s0,hs0⟩: ∃s0,s0=s*step:=⟨_,rfl⟩
   have es0:(s:Int)*(step:Int)=(s0:Int):=by rw [hs0,Int.natCast_mul]
   have hs0b:s0≤1048576:=by rw [hs0];exact Nat.le_trans (Nat.mul_le_mul (by omega:s≤1024) ht4) (by omega)
   have ws0:IntKind.i64.wrap (s0:Int)=(s0:Int):=IntWalk.i64_in _ (by omega)
   have HRg:=Lib.hid (fun k hk=>HRng.out s k hlt hk)
   rw [←hs0] at HRg
   obtain ⟨GL,hGL⟩: ∃GL,GL=wr.heap.size:=⟨_,rfl⟩
   rw [show (⟨wr.heap.size,0,none⟩:Addr)=⟨GL,0,none⟩ by rw [hGL]]
   rw [show R2 wr wr.heap.size=R2 wr GL by rw [hGL]] at HL3
   have hGLG:G≠GL:=by omega
   have hGLG2:GL≠G:=by omega
   have hGLe:wr.heap.size≤GL:=by omega
   have HL0:Hid (∀j,j<0→(fun _=>(0:Fin p)) j=T' (s0+j*far)):=Lib.hid (fun j hj=>absurd hj (Nat.not_lt_zero _))
   have HS0:=Lib.hid hs0
   clear hown hgrow hGL hs0
   go_wp2
   go_loopw [27] (fun I wz=> ∃(k:Nat) (F:Nat→Fin p),I= .int .i64 k∧k≤len∧Hid (∀j,j<k→F j=T' (s0+j*far))∧Hid (R2 wr GL len len (lst len F) wz)) (fun I _=>len-(intOf I).toNat)
   case atStart=>exact ⟨0,_,rfl,by omega,HL0,HL3⟩
   case round=>
    clear HL3 HL0
    obtain ⟨k,F,rfl,hk,hF,hL⟩:=hrel
    rename World=>wz
    by_cases hkl:k<len
    ·have tk:decide ((k:Int)<(len:Int))=true:=decide_eq_true (by omega)
     have hr1:=HRg.out k hkl
     obtain ⟨y,hy⟩: ∃y,y=k*far:=⟨_,rfl⟩
     have ey:(k:Int)*(far:Int)=(y:Int):=by rw [hy,Int.natCast_mul]
     rw [←hy] at hr1
     obtain ⟨o,ho⟩: ∃o,o=s0+y:=⟨_,rfl⟩
     have eo:(s0:Int)+(y:Int)=(o:Int):=by omega
     rw [←ho] at hr1
     have c1:=(zN9 (hQ.out.2.below hL.out.1) o hr1).1
     rw [zKY hr1] at c1
     obtain ⟨x,hx⟩: ∃x,x=T' o:=⟨_,rfl⟩
     rw [←hx] at c1
     have c2:=hL.out.cell k hkl
     have f2:=hL.out.fz k hkl
     have hO1:=(hL.out.2.set k hkl (x.val:Int)).1
     rw [zLe] at hO1
     have HL2:Hid (R2 wr GL len len (lst len (upd F k x)) (wz.setCell ⟨GL,k,none⟩ (.int .u64 (x.val:Int)))):=Lib.hid ⟨zCn hL.out.1 hGLe k _,hO1⟩
     have hF2:Hid (∀j,j<k+1→upd F k x j=T' (s0+j*far)):=Lib.hid (fun j hj=>by
      by_cases e:j=k
      ·subst e;rw [upd_same,hx,ho,hy]
      ·rw [zWh e];exact hF.out j (by omega))
     have wy:IntKind.i64.wrap (y:Int)=(y:Int):=IntWalk.i64_in _ (by omega)
     have wo:IntKind.i64.wrap (o:Int)=(o:Int):=IntWalk.i64_in _ (by omega)
     have i1:(0:Int)≤(o:Int):=by omega
     have i2:(o:Int)<(N:Int):=by omega
     clear hy ho hx hO1 hL hF
     go_wp2
     go_roundw
     case rel=>exact ⟨k+1,upd F k x,by go_num,by omega,hF2,HL2⟩
     case measure=>simp [intOf];omega
    ·obtain rfl:len=k:=by omega
     have tk:decide ((len:Int)<(len:Int))=false:=by simp
     obtain ⟨AL,cL,hVL,hRL⟩:=hL.out.2.rd
     have hBz:But G w wz:=hQ.out.1.trans (But.of_below hL.out.1)
     have hOz:=hQ.out.2.below hL.out.1
     have HP:=Lib.hid (HPt.out wz (some ⟨GL,0,none⟩) len F hBz (by injection hVL with h1 h2 h3;rw [h1];exact hRL))
     have HQz:Hid (But G w wz∧OwnU wz B (.slice (some ⟨G,0,none⟩) N c) N (lst N T')):=Lib.hid ⟨hBz,hOz⟩
     have hGz:G<wz.heap.size:=by have:=hBz.size;have:=HG.out;omega
     have HX:Hid (lst len (tr (zt p g) len inv F)=lst len (tr (zt p g) len inv fun j=>T (s0+j*far))):=Lib.hid (zKW fun i _=>zVj (fun j hj=>by
      rw [hF.out j hj,HS0.out];exact hold.out s j (Nat.le_refl _) hlt hj) i)
     clear hVL hRL hBz hOz hL hQ hF
     go_wp2_with fail
     refine HP.out.mono ?_
     rintro e w5 ⟨V5,rfl,hO5,hB5⟩
     rw [HX.out] at hO5
     obtain ⟨X,hX⟩: ∃X,X=tr (zt p g) len inv fun j=>T (s0+j*far):=⟨_,rfl⟩
     rw [←hX] at hO5
     have HXe:=Lib.hid hX
     obtain ⟨GX,cX,rfl,hGX⟩:=zN2 hO5 hl0
     have hGXl:=(World.ownsRow.lt hO5 GX rfl).2
     have HcX:Hid (∀wy k,But G w5 wy→k<len→wy.cell? ⟨GX,k,none⟩=some (.int .u64 ((X k).val:Int))):=Lib.hid (fun wy k hy hk=>by
      have h1:=(zN9 hO5 k hk).1
      rw [zKY hk] at h1
      exact hy.cell hGXl (by omega) h1)
     have HQ5:Hid (But G w w5∧OwnU w5 B (.slice (some ⟨G,0,none⟩) N c) N (lst N T')):=Lib.hid ⟨HQz.out.1.trans (But.of_below hB5),HQz.out.2.below hB5⟩
     have H30:Hid (∀k',k'<0→T' (s0+k'*far)=X k'):=Lib.hid (fun j hj=>absurd hj (Nat.not_lt_zero _))
     have HR0:Hid (But G w5 w5):=Lib.hid (But.refl _ _)
     clear hO5 hB5 hX HX HP HQz
     go_wp2
     go_loopw [49] (fun I wy=> ∃(k:Nat) (T2:Nat→Fin p),I= .int .i64 k∧k≤len∧Hid (∀k',k'<k→T2 (s0+k'*far)=X k')∧Hid (∀j,(∀k',k'<k→j≠s0+k'*far)→T2 j=T' j)∧Hid (But G w wy∧OwnU wy B (.slice (some ⟨G,0,none⟩) N c) N (lst N T2))∧Hid (But G w5 wy)) (fun I _=>len-(intOf I).toNat)
     case atStart=>exact ⟨0,T',rfl,by omega,H30,Lib.hid (fun _ _=>rfl),HQ5,HR0⟩
     case round=>
      clear HQ5 H30 HR0
      obtain ⟨k,T2,rfl,hk,hn2,ho2,hQ,hR⟩:=hrel
      rename World=>wy
      by_cases hkl:k<len
      ·have tk:decide ((k:Int)<(len:Int))=true:=decide_eq_true (by omega)
       have hr1:=HRg.out k hkl
       have c1:=HcX.out wy k hR.out hkl
       obtain ⟨y,hy⟩: ∃y,y=k*far:=⟨_,rfl⟩
       have ey:(k:Int)*(far:Int)=(y:Int):=by rw [hy,Int.natCast_mul]
       rw [←hy] at hr1
       obtain ⟨o,ho⟩: ∃o,o=s0+y:=⟨_,rfl⟩
       have eo:(s0:Int)+(y:Int)=(o:Int):=by omega
       rw [←ho] at hr1
       obtain ⟨x,hx⟩: ∃x,x=X k:=⟨_,rfl⟩
       rw [←hx] at c1
       obtain ⟨c2,f2,_⟩:=zN9 hQ.out.2 o hr1
       have hO1:=(hQ.out.2.set o hr1 (x.val:Int)).1
       rw [zLe] at hO1
       have HQ2:Hid (But G w (wy.setCell ⟨G,o,none⟩ (.int .u64 (x.val:Int)))∧OwnU (wy.setCell ⟨G,o,none⟩ (.int .u64 (x.val:Int))) B (.slice (some ⟨G,0,none⟩) N c) N (lst N (upd T2 o x))):=Lib.hid ⟨hQ.out.1.trans (But.setCell G o wy _),hO1⟩
       have HR2:Hid (But G w5 (wy.setCell ⟨G,o,none⟩ (.int .u64 (x.val:Int)))):=Lib.hid (hR.out.trans (But.setCell G o wy _))
       have hne: ∀k',k'<len→s0+k'*far=o→k'=k:=fun k' hk' e=>by
        rw [ho,hy,HS0.out] at e
        exact (HInj.out s k' s k hlt hk' hlt hkl e).2
       have hn3:Hid (∀k',k'<k+1→upd T2 o x (s0+k'*far)=X k'):=Lib.hid (fun k' hk'=>by
        by_cases e:k'=k
        ·subst e;rw [←hy,←ho,upd_same,hx]
        ·rw [zWh (fun h=>e (hne k' (by omega) h))];exact hn2.out k' (by omega))
       have ho3:Hid (∀j,(∀k',k'<k+1→j≠s0+k'*far)→upd T2 o x j=T' j):=Lib.hid (fun j hj=>by
        rw [zWh (by rw [ho,hy];exact hj k (by omega))]
        exact ho2.out j (fun k' hk'=>hj k' (by omega)))
       have wy':IntKind.i64.wrap (y:Int)=(y:Int):=IntWalk.i64_in _ (by omega)
       have wo:IntKind.i64.wrap (o:Int)=(o:Int):=IntWalk.i64_in _ (by omega)
       have i1:(0:Int)≤(o:Int):=by omega
       have i2:(o:Int)<(N:Int):=by omega
       clear hy ho hx hO1 hQ hR hn2 ho2 hne
       go_wp2
       go_roundw
       case rel=>exact ⟨k+1,upd T2 o x,by go_num,by omega,hn3,ho3,HQ2,HR2⟩
       case measure=>simp [intOf];omega
      ·obtain rfl:len=k:=by omega
       have tk:decide ((len:Int)<(len:Int))=false:=by simp
       have hn3:Hid (∀s' k,s'<s+1→k<len→T2 (s'*step+k*far)=tr (zt p g) len inv (fun j=>T (s'*step+j*far)) k):=Lib.hid (fun s' k hs' hk'=>by
        by_cases e:s'=s
        ·subst e
         rw [←HS0.out,hn2.out k hk',HXe.out]
        ·rw [ho2.out _ (fun k' hk2 h=>e (by
          rw [HS0.out] at h
          exact (HInj.out s' k s k' (by omega) hk' hlt hk2 h).1))]
         exact hnew.out s' k (by omega) hk')
       have ho3:Hid (∀s' k,s+1≤s'→s'<starts→k<len→T2 (s'*step+k*far)=T (s'*step+k*far)):=Lib.hid (fun s' k hs' hs2 hk'=>by
        rw [ho2.out _ (fun k' hk2 h=>by
         rw [HS0.out] at h
         have:=(HInj.out s' k s k' hs2 hk' hlt hk2 h).1
         omega)]
        exact hold.out s' k (by omega) hs2 hk')
       clear hn2 ho2 hnew hold hR
       go_wp2
       go_roundw
       case rel=>exact ⟨s+1,T2,by go_num,by omega,hn3,ho3,hQ⟩
       case measure=>simp [intOf];omega
  ·obtain rfl:starts=s:=by omega
   have ti:decide ((starts:Int)<(starts:Int))=false:=by simp
   have hQo:=Lib.hid (And.intro hQ.out.2 hQ.out.1)
   clear hQ hold
   go_wp2
   go_end0
   exact ⟨⟨_,rfl⟩,T',hQo.out.1,hQo.out.2,hnew⟩
end Go.Proofs.YtmalmijdjhkklaaGreat
end

section
/- coprime.Run. -/
namespace Go.Proofs.YtmalmijdjhkklaaGreat
open Go.RowKit
open Alg
theorem zEG {p:Nat} [NeZero p] {g:Fin p} {a b:Nat} (hg:Ord g (p-1)) (hd:a*b∣p-1) (ha:0<a) (hb:0<b) (hgcd:Nat.gcd a b=1) (inv:Bool) (x T1 T2:Nat→Fin p)
  (h1: ∀s k,s<a→k<b→T1 (s*b+k*1)=tr g b inv (fun j=>x (inP a b (s*b+j*1))) k) (h2: ∀s k,s<b→k<a→T2 (s*1+k*b)=tr g a inv (fun i=>T1 (s*1+i*b)) k) (k:Nat):
  T2 (k%a*b+k%b)=tr g (a*b) inv x k:=by
 have ka:k%a<a:=Nat.mod_lt _ ha
 have kb:k%b<b:=Nat.mod_lt _ hb
 have ra:pw (rt g (a*b) inv) b=rt g a inv:=zS0 hg hd ha hb inv
 have rb:pw (rt g (a*b) inv) a=rt g b inv:=by
  have:=zS0 (g:=g) (a:=b) (b:=a) hg (by rw [Nat.mul_comm];exact hd) hb ha inv
  rw [Nat.mul_comm b a] at this
  exact this
 have hw:pw (rt g (a*b) inv) (a*b)=1:=(zSz hg hd (Nat.mul_pos ha hb) inv).2.1
 have e:=zEF hgcd ha hb hw (sc p a inv) (sc p b inv) x k
 rw [ra,rb,zSX] at e
 have at1:(k%a*b+k%b)/b=k%a:=by rw [Nat.mul_comm,Nat.mul_add_div hb,Nat.div_eq_of_lt kb];rfl
 have at2:(k%a*b+k%b)%b=k%b:=by rw [Nat.add_comm,Nat.add_mul_mod_self_right,Nat.mod_eq_of_lt kb]
 have h3:=h2 (k%b) (k%a) kb ka
 rw [Nat.mul_one,Nat.add_comm] at h3
 rw [h3]
 show sc p a inv*dft (rt g a inv) a (fun i=>T1 (k%b+i*b)) (k%a)=sc p (a*b) inv*dft (rt g (a*b) inv) (a*b) x k
 rw [←e]
 unfold zEB
 rw [at1,at2]
 congr 1
 refine dft_congr (fun i hi=>?_) _
 have h4:=h1 i (k%b) hi kb
 rw [Nat.mul_one] at h4
 rw [Nat.add_comm,h4]
 have at3:(i*b+k%b)/b=i:=by rw [Nat.mul_comm,Nat.mul_add_div hb,Nat.div_eq_of_lt kb];rfl
 have at4:(i*b+k%b)%b=k%b:=by rw [Nat.add_comm,Nat.add_mul_mod_self_right,Nat.mod_eq_of_lt kb]
 unfold zSl
 rw [at3,at4]
 unfold tr
 congr 1
 exact dft_congr (fun j hj=>by rw [Nat.mul_one]) _
def zGL (p:Int) (L:List Int) (a:Int):Int:=if chk p L.length 1024≠0 then chk p L.length 1024 else if copB L.length a=false then 11 else if zI1 p L=false then 9 else 0
theorem zGM {p:Int} {L:List Int} {a:Int} (h:zGL p L a=0):chk p L.length 1024=0∧copB L.length a=true∧zI1 p L=true:=by
 unfold zGL at h
 split at h
 ·rename_i h1;exact absurd h h1
 ·rename_i h1
  split at h
  ·omega
  ·rename_i h2
   split at h
   ·omega
   ·rename_i h3
    exact ⟨by simpa using h1,by simpa using h2,by simpa using h3⟩
set_option maxHeartbeats 2000000 in
theorem zEH {p:Nat} {w:World} {v:Value} {g:Int} (h:Fd w w.heap.size v p g) (A:Option Addr) (c:Nat) (L:List Int) (a:Int) (a0: -9223372036854775808≤a) (a1:a≤9223372036854775807) (inv:Bool) (hl:L.length≤140737488351232) (hU:U64s L) (hR:RdI w w.heap.size .u64 A L) (hf:zGL p L a≠0):
  Calls Tryz.prog 66 #[v, .slice A L.length c, .int .i64 a, .bool inv] w fun e w'=>e= .returned (.tuple #[.slice none 0 0, .int .i64 (zGL p L a)])∧Below w.heap.size w w':=by
 have hC:=Lib.hid (fun m=>zDT h L.length m (by omega) (by omega))
 have hG:=Lib.hid (fun wz (hz:Below w.heap.size w wz)=>zI6 ((h.below hz).mono hz.size) A c wz.heap.size L hl hU ((hR.below hz).mono hz.size))
 have hF:=Lib.hid (fun W=>zDD (L.length:Int) a (by omega) (by omega) a0 a1 W)
 have HV:Hid (zGL p L a=if chk p L.length 1024≠0 then chk p L.length 1024 else if copB L.length a=false then 11 else if zI1 p L=false then 9 else 0):=Lib.hid rfl
 have HFn:=Lib.hid hf
 clear h hU hR hf
 by_cases c1:chk p L.length 1024=0
 ·have hC2:=Lib.hid (hC.out 1024)
  rw [c1] at hC2
  by_cases c2:copB L.length a=false
  ·have HV2:Hid (zGL p L a=11):=Lib.hid (by rw [HV.out,if_neg (by simp [c1]),if_pos c2])
   rw [c2] at hF
   clear c1 c2 hC
   go_enter Tryz.func66,Tryz.ntmps66
   go_wp2_with fail
   refine hC2.out.mono ?_
   rintro e w1 ⟨rfl,rfl⟩
   go_wp2_with fail
   refine (hF.out _).mono ?_
   rintro e w1 ⟨rfl,q,rfl⟩
   go_wp2
   go_ret2
   exact ⟨by rw [HV2.out];first|rfl|simp,below_drewN (Below.refl _ _) q⟩
  ·have c2':copB L.length a=true:=by simpa using c2
   rw [c2'] at hF
   by_cases c3:zI1 p L=false
   ·have HV2:Hid (zGL p L a=9):=Lib.hid (by rw [HV.out,if_neg (by simp [c1]),if_neg c2,if_pos c3])
    rw [c3] at hG
    clear c1 c2 c2' c3 hC
    go_enter Tryz.func66,Tryz.ntmps66
    go_wp2_with fail
    refine hC2.out.mono ?_
    rintro e w1 ⟨rfl,rfl⟩
    go_wp2_with fail
    refine (hF.out _).mono ?_
    rintro e w1 ⟨rfl,q,rfl⟩
    go_wp2_with fail
    refine (hG.out _ (below_drewN (Below.refl _ _) q)).mono ?_
    rintro e w3 ⟨rfl,rfl⟩
    go_wp2
    go_ret2
    exact ⟨by rw [HV2.out];first|rfl|simp,below_drewN (Below.refl _ _) q⟩
   ·exact absurd (by rw [HV.out,if_neg (by simp [c1]),if_neg c2,if_neg c3]) HFn.out
 ·have HV2:Hid (zGL p L a=chk p L.length 1024):=Lib.hid (by rw [HV.out,if_pos c1])
  have hC2:=Lib.hid (hC.out 1024)
  obtain ⟨z,hz⟩: ∃z,z=chk p L.length 1024:=⟨_,rfl⟩
  rw [←hz] at hC2 HV2 c1
  have t:(z != 0)=true:=by simp [c1]
  clear hz c1 hC
  go_enter Tryz.func66,Tryz.ntmps66
  go_wp2_with fail
  refine hC2.out.mono ?_
  rintro e w1 ⟨rfl,rfl⟩
  go_wp2
  go_ret2
  exact ⟨by rw [HV2.out];first|rfl|simp,Below.refl _ _⟩
theorem zEn {p:Int} {a b:Nat} (ha:0<a) (hb:0<b) (h:chk p ((a*b:Nat):Int) 1024=0):chk p (b:Int) 1024=0:=by
 obtain ⟨c1,c2,c3⟩:=zEq h
 have h1:b≤a*b:=Nat.le_mul_of_pos_left _ ha
 unfold chk
 rw [if_neg (by omega),if_neg (by omega),if_pos]
 refine Int.emod_eq_zero_of_dvd ?_
 refine Int.dvd_trans ?_ (Int.dvd_of_emod_eq_zero c3)
 rw [Int.natCast_mul]
 exact Int.dvd_mul_left _ _
set_option maxHeartbeats 8000000 in
set_option maxRecDepth 100000 in
theorem zEI {p:Nat} [NeZero p] {w:World} {v:Value} {g:Int} (hp:Prime p) (hg:Ord (zt p g) (p-1)) (g0:0≤g) (g1:g<p) (h:Fd w w.heap.size v p g) (A:Option Addr) (c:Nat) (L:List Int) (ai:Int) (inv:Bool) (hU:U64s L) (hR:RdI w w.heap.size .u64 A L) (hf:zGL p L ai=0):
  Calls Tryz.prog 66 #[v, .slice A L.length c, .int .i64 ai, .bool inv] w fun e w'=> ∃V,e= .returned (.tuple #[V, .int .i64 0])∧OwnU w' w.heap.size V L.length (lst L.length (tr (zt p g) L.length inv (rz p L)))∧Below w.heap.size w w':=by
 obtain ⟨i0,hi,hz0,hz1,hz2⟩:=info_parts zJt
 obtain ⟨hc1,hcop,hgd⟩:=zGM hf
 have hc:=zEp hc1
 obtain ⟨n1,n2,_⟩:=zEq hc1
 obtain ⟨hdv,hn0⟩:=zEl (by have:=hp.1;omega) hc
 have hcop2:=hcop
 unfold copB at hcop2
 rw [decide_eq_true_eq] at hcop2
 obtain ⟨ha1,haN,hmod,hgcd⟩:=hcop2
 obtain ⟨a,rfl⟩:=Int.eq_ofNat_of_zero_le (show 0≤ai by omega)
 obtain ⟨b,hb⟩: ∃b,b=L.length/a:=⟨_,rfl⟩
 have hab:L.length=a*b:=by
  rw [hb]
  have h1:L.length%a=0:=by omega
  exact (Nat.mul_div_cancel' (Nat.dvd_of_mod_eq_zero h1)).symm
 have hgcd2:Nat.gcd a b=1:=by
  rw [Int.toNat_natCast,show ((L.length:Int)/(a:Int)).toNat=L.length/a by omega,←hb] at hgcd
  exact hgcd
 have ha0:0<a:=by omega
 have hb0:0<b:=by
  rcases Nat.eq_zero_or_pos b with e|e
  ·rw [e,Nat.mul_zero] at hab;omega
  ·exact e
 have eb:(L.length:Int).tdiv (a:Int)=(b:Int):=by rw [Int.tdiv_eq_ediv_of_nonneg (by omega),hb];omega
 have hbn:b≤L.length:=by rw [hab];exact Nat.le_mul_of_pos_left _ ha0
 have HPM:=Lib.hid (And.intro h.p3 h.pmx)
 have hC:=Lib.hid (zDT h L.length 1024 (by omega) (by omega))
 rw [hc1] at hC
 have hF:=Lib.hid (fun W=>zDD (L.length:Int) (a:Int) (by omega) (by omega) (by omega) (by omega) W)
 rw [hcop] at hF
 have hG:=Lib.hid (fun wz (hz:Below w.heap.size w wz)=>zI6 ((h.below hz).mono hz.size) A c wz.heap.size L (by omega) hU ((hR.below hz).mono hz.size))
 rw [hgd] at hG
 have HIn:=Lib.hid (fun W=>zEz a b ha0 hb0 (by omega) (by rw [←hab];exact hcop) W)
 have HOut:=Lib.hid (fun W=>zEP a b ha0 hb0 (by omega) (by rw [←hab];exact hcop) W)
 have hcb:chk p (b:Int) 1024=0:=zEn ha0 hb0 (by rw [←hab];exact hc1)
 have hca:chk p (a:Int) 1024=0:=zEn hb0 ha0 (by rw [Nat.mul_comm,←hab];exact hc1)
 have HL1:Hid (∀(wz:World) (B0 B G c:Nat) (T:Nat→Fin p),Fd wz B0 v p g→B0≤G→G<wz.heap.size→OwnU wz B (.slice (some ⟨G,0,none⟩) L.length c) L.length (lst L.length T)→Calls Tryz.prog 126 #[v, .slice (some ⟨G,0,none⟩) L.length c, .int .i64 (a:Int), .int .i64 (b:Int), .int .i64 (b:Int), .int .i64 1, .bool inv] wz fun e w'=>(∃u,e= .returned u)∧ ∃T',OwnU w' B (.slice (some ⟨G,0,none⟩) L.length c) L.length (lst L.length T')∧But G wz w'∧
   Hid (∀s k,s<a→k<b→T' (s*b+k*1)=tr (zt p g) b inv (fun j=>T (s*b+j*1)) k)):=Lib.hid (fun wz B0 B G c T hF hB hG hO=>
  lines_any hp hg g0 g1 B0 B G c L.length a b b 1 inv T hF hB hG (by omega) (by omega) (by omega) (by omega) hcb (fun s k hs hk=>by
   have:=Nat.mul_le_mul_right b hs
   rw [Nat.succ_mul] at this
   rw [hab];omega) (fun s k s' k' hs hk hs' hk' e=>by
   rw [Nat.mul_one,Nat.mul_one] at e
   have e1:(s*b+k)/b=s:=by rw [Nat.mul_comm,Nat.mul_add_div hb0,Nat.div_eq_of_lt hk];rfl
   have e2:(s'*b+k')/b=s':=by rw [Nat.mul_comm,Nat.mul_add_div hb0,Nat.div_eq_of_lt hk'];rfl
   have:s=s':=by rw [←e1,e,e2]
   subst this
   exact ⟨rfl,by omega⟩) hO)
 have HL2:Hid (∀(wz:World) (B0 B G c:Nat) (T:Nat→Fin p),Fd wz B0 v p g→B0≤G→G<wz.heap.size→OwnU wz B (.slice (some ⟨G,0,none⟩) L.length c) L.length (lst L.length T)→Calls Tryz.prog 126 #[v, .slice (some ⟨G,0,none⟩) L.length c, .int .i64 (b:Int), .int .i64 1, .int .i64 (a:Int), .int .i64 (b:Int), .bool inv] wz fun e w'=>(∃u,e= .returned u)∧ ∃T',OwnU w' B (.slice (some ⟨G,0,none⟩) L.length c) L.length (lst L.length T')∧But G wz w'∧
   Hid (∀s k,s<b→k<a→T' (s*1+k*b)=tr (zt p g) a inv (fun j=>T (s*1+j*b)) k)):=Lib.hid (fun wz B0 B G c T hF hB hG hO=>
  lines_any hp hg g0 g1 B0 B G c L.length b 1 a b inv T hF hB hG (by omega) (by omega) (by omega) (by omega) hca (fun s k hs hk=>by
   have:=Nat.mul_le_mul_right b hk
   rw [Nat.succ_mul] at this
   rw [hab];omega) (fun s k s' k' hs hk hs' hk' e=>by
   rw [Nat.mul_one,Nat.mul_one] at e
   have e1:(s+k*b)/b=k:=by rw [Nat.mul_comm,Nat.add_mul_div_left _ _ hb0,Nat.div_eq_of_lt hs];omega
   have e2:(s'+k'*b)/b=k':=by rw [Nat.mul_comm,Nat.add_mul_div_left _ _ hb0,Nat.div_eq_of_lt hs'];omega
   have:k=k':=by rw [←e1,e,e2]
   subst this
   exact ⟨by omega,rfl⟩) hO)
 obtain ⟨x,hx⟩: ∃x,x=rz p L:=⟨_,rfl⟩
 have HTr:Hid (∀T1 T2:Nat→Fin p,(∀s k,s<a→k<b→T1 (s*b+k*1)=tr (zt p g) b inv (fun j=>x (inP a b (s*b+j*1))) k)→(∀s k,s<b→k<a→T2 (s*1+k*b)=tr (zt p g) a inv (fun i=>T1 (s*1+i*b)) k)→ ∀k,T2 (k%a*b+k%b)=tr (zt p g) L.length inv x k):=Lib.hid (fun T1 T2 h1 h2 k=>by
  rw [hab];exact zEG hg (by rw [←hab];exact hdv) ha0 hb0 hgcd2 inv x T1 T2 h1 h2 k)
 have HFd:=Lib.hid h
 have HX:Hid (∀k,k<L.length→L.getD k 0=((x k).val:Int)):=Lib.hid (fun k hk=>by
  have h1:lst L.length x=L:=by rw [hx];exact zLc hgd hU
  have h2:=zKY (f:=x) hk
  rw [h1] at h2
  exact h2)
 have HR:=Lib.hid hR
 rw [←hx]
 obtain ⟨n,hn⟩: ∃n,n=L.length:=⟨_,rfl⟩
 have HIP:Hid (∀t,t<n→inP a b t<n):=Lib.hid (fun t _=>by rw [hn,hab];exact Nat.mod_lt _ (Nat.mul_pos ha0 hb0))
 have HOP:Hid (∀t,t%a*b+t%b<n):=Lib.hid (fun t=>by
  have h1:=Nat.mul_le_mul_right b (Nat.mod_lt t ha0)
  rw [Nat.succ_mul] at h1
  have h2:=Nat.mod_lt t hb0
  rw [hn,hab];omega)
 rw [←hab,←hn] at HIn HOut
 rw [←hn] at hC hF hG HL1 HL2 HTr HX eb hn0 hbn ⊢
 have HN:=Lib.hid hn
 have hn4:n≤1024:=by omega
 have ta:((a:Int) == 0)=false:=by simp;omega
 have na: ¬a=0:=by omega
 have wb:IntKind.i64.wrap (b:Int)=(b:Int):=IntWalk.i64_in _ (by omega)
 clear h hR hU hf hc hc1 hcop hgd hdv hx hn hab hgcd hgcd2 hmod hb hcb hca hg hp g0 g1 n1 n2 haN
 go_enter Tryz.func66,Tryz.ntmps66
 go_wp2_with fail
 refine hC.out.mono ?_
 rintro e w1 ⟨rfl,rfl⟩
 go_wp2_with fail
 refine (hF.out _).mono ?_
 rintro e w1 ⟨rfl,q,rfl⟩
 go_wp2_with fail
 refine (hG.out _ (below_drewN (Below.refl _ _) q)).mono ?_
 rintro e w3 ⟨rfl,rfl⟩
 have hB2:Below w.heap.size w (w.drewN q):=below_drewN (Below.refl _ _) q
 have hsz:(w.drewN q).heap.size=w.heap.size:=by simp
 have HR2:=Lib.hid (HR.out.below hB2)
 have HFd2:Hid (Fd (w.drewN q) w.heap.size v p g):=Lib.hid (HFd.out.drewN q)
 generalize w.drewN q=w2 at *
 go_wp2_with (at_make;refine wpList_make_full _ rfl _ _ 54 rfl w.heap.size 22 i0 (.int .u64 0) 1 Tryz.underlying54 hi hz0 hz1 _ _ _ _ n rfl rfl ?l1 ?l2 ?b2 ?b3 (by omega) ?_)
 case l1=>omega
 case l2=>omega
 case b2=>rw [hz2];omega
 case b3=>unfold maxLen;omega
 intro w3 hown hgrow
 have hB3:Below w.heap.size w w3:=hB2.grown hgrow (by omega) (fun k h=>by cases h)
 have hB23:Below w2.heap.size w2 w3:=(Below.refl _ _).grown hgrow (Nat.le_refl _) (fun k h=>by cases h)
 have hO3:OwnU w3 w.heap.size (.slice (some ⟨w.heap.size,0,none⟩) n n) n (lst n (fun _=>(0:Fin p))):=zLs hown
 obtain ⟨G,hGe⟩: ∃G,G=w.heap.size:=⟨_,rfl⟩
 rw [show (⟨w.heap.size,0,none⟩:Addr)=⟨G,0,none⟩ by rw [hGe]] at hO3
 rw [show (⟨w.heap.size,0,none⟩:Addr)=⟨G,0,none⟩ by rw [hGe]]
 have hG3:G<w3.heap.size:=(World.ownsRow.lt hO3 G rfl).2
 have hGw:w.heap.size≤G:=by omega
 have HO3:=Lib.hid hO3
 have HB3:=Lib.hid hB3
 clear hown hgrow hB23 hO3 hB3 hB2 HR2 HFd2 hsz hC hF hG hGe
 go_wp2_with fail
 refine (HIn.out w3).mono ?_
 rintro e w4 ⟨VI,rfl,hownI,hB4⟩
 obtain ⟨AI,cI,rfl,hRI⟩:=RdI.of_own (xs:=zDm (inL a b n)) (by rw [zDo,zJa];exact hownI)
 rw [zDo,zJa]
 obtain ⟨bI,oI,rfl,hbI,hcI⟩:=hRI (by rw [zDo,zJa];exact hn0)
 have hbI3:w3.heap.size≤bI:=(World.ownsRow.lt hownI bI (by rfl)).1
 have HcI:Hid (∀k,k<n→w4.cell? ⟨bI,oI+k,none⟩=some (.int .i64 ((inP a b k:Nat):Int))):=Lib.hid (fun k hk=>by
  have h1:=hcI k (by rw [zDo,zJa];exact hk)
  rw [zDn] at h1
  rw [h1]
  unfold inL
  rw [List.getD_eq_getElem?_getD,List.getElem?_map,List.getElem?_range hk];rfl)
 have HB4:=Lib.hid (HB3.out.trans (hB4.mono HB3.out.size))
 obtain ⟨bA,oA,rfl,hbA,hcA⟩:=HR.out (by rw [←HN.out];exact hn0)
 have HcA:Hid (∀k,k<n→w4.cell? ⟨bA,oA+k,none⟩=some (.int .u64 ((x k).val:Int))):=Lib.hid (fun k hk=>by
  rw [←HX.out k hk]
  exact zDs HB4.out hbA (hcA k (by rw [←HN.out];exact hk)))
 have HQ4:Hid (But G w4 w4∧OwnU w4 w.heap.size (.slice (some ⟨G,0,none⟩) n n) n (lst n (fun _=>(0:Fin p)))):=Lib.hid ⟨But.refl _ _,HO3.out.below hB4⟩
 have hG4:G<w4.heap.size:=by have:=hB4.size;omega
 have hbA4:bA<w4.heap.size:=by have:=HB4.out.size;omega
 clear hownI hRI hcI hB4 HIn hcA HO3 HR HX
 go_wp2
 go_loopw [47] (fun I wr=> ∃(k:Nat) (F:Nat→Fin p),I= .int .i64 k∧k≤n∧Hid (∀t,t<k→F t=x (inP a b t))∧Hid (But G w4 wr∧OwnU wr w.heap.size (.slice (some ⟨G,0,none⟩) n n) n (lst n F))) (fun I _=>n-(intOf I).toNat)
 case atStart=>exact ⟨0,_,rfl,by omega,Lib.hid (fun t ht=>absurd ht (Nat.not_lt_zero _)),HQ4⟩
 case round=>
  clear HQ4
  obtain ⟨k,F,rfl,hk,hF,hQ⟩:=hrel
  by_cases hlt:k<n
  ·have tk:decide ((k:Int)<(n:Int))=true:=decide_eq_true (by omega)
   have c0:=hQ.out.1.cell hbI (by omega) (HcI.out k hlt)
   have hip:=HIP.out k hlt
   have c1:=hQ.out.1.cell hbA4 (by omega) (HcA.out (inP a b k) hip)
   have hF2:Hid (∀t,t<k+1→upd F k (x (inP a b k)) t=x (inP a b t)):=Lib.hid (fun t ht=>by
    by_cases e:t=k
    ·subst e;rw [upd_same]
    ·rw [zWh e];exact hF.out t (by omega))
   obtain ⟨z,hz⟩: ∃z,z=inP a b k:=⟨_,rfl⟩
   rw [←hz] at c0 c1 hip hF2
   obtain ⟨y,hy⟩: ∃y,y=x z:=⟨_,rfl⟩
   rw [←hy] at c1 hF2
   obtain ⟨c2,f2,_⟩:=zN9 hQ.out.2 k hlt
   have hO1:=(hQ.out.2.set k hlt (y.val:Int)).1
   rw [zLe] at hO1
   have HQ2:Hid (But G w4 (wr.setCell ⟨G,k,none⟩ (.int .u64 (y.val:Int)))∧OwnU (wr.setCell ⟨G,k,none⟩ (.int .u64 (y.val:Int))) w.heap.size (.slice (some ⟨G,0,none⟩) n n) n (lst n (upd F k y))):=Lib.hid ⟨hQ.out.1.trans (But.setCell G k wr _),hO1⟩
   have i1:(0:Int)≤(z:Int):=by omega
   have i2:(z:Int)<(n:Int):=by omega
   have i3:(z:Int)<(L.length:Int):=by have:=HN.out;omega
   have i4:(0:Int)≤(k:Int):=by omega
   have i5:(k:Int)<(n:Int):=by omega
   clear hz hy hO1 hQ hF
   go_wp2
   go_roundw
   case rel=>exact ⟨k+1,upd F k y,by go_num,by omega,hF2,HQ2⟩
   case measure=>simp [intOf];omega
  ·obtain rfl:n=k:=by omega
   have tk:decide ((n:Int)<(n:Int))=false:=by simp
   have hBt:=hQ.out.1
   have hBw:Below w.heap.size w wr:=HB4.out.trans (hBt.below HB4.out.size hGw)
   have hO:=hQ.out.2
   rw [zKW (fun t ht=>hF.out t ht)] at hO
   have hGr:G<wr.heap.size:=by have:=hBt.size;omega
   have HA1:=Lib.hid (HL1.out wr w.heap.size w.heap.size G n (fun t=>x (inP a b t)) (HFd.out.below hBw) hGw hGr hO)
   have HBw:=Lib.hid hBw
   clear hBt hBw hO hQ hF
   go_wp2_with fail
   refine HA1.out.mono ?_
   rintro e w5 ⟨⟨u,rfl⟩,T1,hO5,hbt5,hT1⟩
   have hBw5:Below w.heap.size w w5:=HBw.out.trans (hbt5.below HBw.out.size hGw)
   have HA2:=Lib.hid (HL2.out w5 w.heap.size w.heap.size G n T1 (HFd.out.below hBw5) hGw (by have:=hbt5.size;omega) hO5)
   have HBw5:=Lib.hid hBw5
   have hs5:=hbt5.size
   clear hBw5 hbt5 hO5 HA1
   go_wp2_with fail
   refine HA2.out.mono ?_
   rintro e w6 ⟨⟨u2,rfl⟩,T2,hO6,hbt6,hT2⟩
   have HBw6:Hid (Below w.heap.size w w6):=Lib.hid (HBw5.out.trans (hbt6.below HBw5.out.size hGw))
   have HO6:=Lib.hid hO6
   have hs6:=hbt6.size
   have HT2:=Lib.hid (HTr.out T1 T2 hT1.out hT2.out)
   clear hbt6 hO6 HA2 hT1 hT2
   go_wp2_with (at_make;refine wpList_make_full _ rfl _ _ 54 rfl w6.heap.size 22 i0 (.int .u64 0) 1 Tryz.underlying54 hi hz0 hz1 _ _ _ _ n rfl rfl ?l1 ?l2 ?b2 ?b3 (Nat.le_refl _) ?_)
   case l1=>omega
   case l2=>omega
   case b2=>rw [hz2];omega
   case b3=>unfold maxLen;omega
   intro w7 hown hgrow
   have hB7:Below w6.heap.size w6 w7:=(Below.refl _ _).grown hgrow (Nat.le_refl _) (fun k h=>by cases h)
   have hO7:OwnU w7 w6.heap.size (.slice (some ⟨w6.heap.size,0,none⟩) n n) n (lst n (fun _=>(0:Fin p))):=zLs hown
   obtain ⟨H,hHe⟩: ∃H,H=w6.heap.size:=⟨_,rfl⟩
   rw [←hHe] at hO7 ⊢
   rw [show OwnU w7 H=OwnU w7 w6.heap.size by rw [hHe]] at hO7
   have hHw:w6.heap.size≤H:=by omega
   have HQ7:Hid (R2 w6 H n n (lst n (fun _=>(0:Fin p))) w7):=Lib.hid ⟨hB7,hO7⟩
   have hG6:G<w6.heap.size:=by omega
   have hGH:G≠H:=by omega
   clear hown hgrow hB7 hO7 hHe
   go_wp2_with fail
   refine (HOut.out w7).mono ?_
   rintro e w8 ⟨VO,rfl,hownO,hB8⟩
   obtain ⟨AO,cO,rfl,hRO⟩:=RdI.of_own (xs:=full n (outF a b)) (by rw [zHS];exact hownO)
   rw [zHS]
   obtain ⟨bO,oO,rfl,hbO,hcO⟩:=hRO (by rw [zHS];exact hn0)
   have hbO7:w7.heap.size≤bO:=(World.ownsRow.lt hownO bO (by rfl)).1
   have hH7:H<w7.heap.size:=(World.ownsRow.lt HQ7.out.2 H rfl).2
   have HcO:Hid (∀wz k,But H w8 wz→k<n→wz.cell? ⟨bO,oO+k,none⟩=some (.int .i64 ((k%a*b+k%b:Nat):Int))):=Lib.hid (fun wz k hz hk=>by
    have h1:=hcO k (by rw [zHS];exact hk)
    rw [zHR hk] at h1
    exact hz.cell hbO (by omega) h1)
   have HcT:Hid (∀wz o,Below w6.heap.size w6 wz→o<n→wz.cell? ⟨G,o,none⟩=some (.int .u64 ((T2 o).val:Int))):=Lib.hid (fun wz o hz ho=>by
    have h1:=(zN9 HO6.out o ho).1
    rw [zKY ho] at h1
    exact zDs hz hG6 h1)
   have HQ8:Hid (R2 w6 H n n (lst n (fun _=>(0:Fin p))) w8∧But H w8 w8):=Lib.hid ⟨⟨HQ7.out.1.trans (hB8.mono HQ7.out.1.size),HQ7.out.2.below hB8⟩,But.refl _ _⟩
   clear hownO hRO hcO hB8 HQ7 HOut
   go_wp2
   go_loopw [80] (fun I wr=> ∃(k:Nat) (F:Nat→Fin p),I= .int .i64 k∧k≤n∧Hid (∀t,t<k→F t=tr (zt p g) n inv x t)∧Hid (R2 w6 H n n (lst n F) wr∧But H w8 wr)) (fun I _=>n-(intOf I).toNat)
   case atStart=>exact ⟨0,_,rfl,by omega,Lib.hid (fun t ht=>absurd ht (Nat.not_lt_zero _)),HQ8⟩
   case round=>
    clear HQ8
    obtain ⟨k,F,rfl,hk,hF,hQ⟩:=hrel
    rename World=>wz
    by_cases hlt:k<n
    ·have tk:decide ((k:Int)<(n:Int))=true:=decide_eq_true (by omega)
     have c0:=HcO.out wz k hQ.out.2 hlt
     have hip:=HOP.out k
     have c1:=HcT.out wz (k%a*b+k%b) hQ.out.1.1 hip
     have hTk:=HT2.out k
     have hF2:Hid (∀t,t<k+1→upd F k (T2 (k%a*b+k%b)) t=tr (zt p g) n inv x t):=Lib.hid (fun t ht=>by
      by_cases e:t=k
      ·subst e;rw [upd_same];exact hTk
      ·rw [zWh e];exact hF.out t (by omega))
     obtain ⟨z,hz⟩: ∃z,z=k%a*b+k%b:=⟨_,rfl⟩
     rw [←hz] at c0 c1 hip hF2
     obtain ⟨y,hy⟩: ∃y,y=T2 z:=⟨_,rfl⟩
     rw [←hy] at c1 hF2
     obtain ⟨c2,f2,_⟩:=zN9 hQ.out.1.2 k hlt
     have hO1:=(hQ.out.1.2.set k hlt (y.val:Int)).1
     rw [zLe] at hO1
     have HQ2:Hid (R2 w6 H n n (lst n (upd F k y)) (wz.setCell ⟨H,k,none⟩ (.int .u64 (y.val:Int)))∧But H w8 (wz.setCell ⟨H,k,none⟩ (.int .u64 (y.val:Int)))):=Lib.hid ⟨⟨zCn hQ.out.1.1 hHw k _,hO1⟩,hQ.out.2.trans (But.setCell H k wz _)⟩
     have i1:(0:Int)≤(z:Int):=by omega
     have i2:(z:Int)<(n:Int):=by omega
     have i4:(0:Int)≤(k:Int):=by omega
     have i5:(k:Int)<(n:Int):=by omega
     clear hz hy hO1 hQ hF hTk
     go_wp2
     go_roundw
     case rel=>exact ⟨k+1,upd F k y,by go_num,by omega,hF2,HQ2⟩
     case measure=>simp [intOf];omega
    ·obtain rfl:n=k:=by omega
     have tk:decide ((n:Int)<(n:Int))=false:=by simp
     have hO:=hQ.out.1.2
     rw [zKW (fun t ht=>hF.out t ht)] at hO
     have HO:=Lib.hid (hO.mono HBw6.out.size)
     have HB:=Lib.hid (HBw6.out.trans (hQ.out.1.1.mono HBw6.out.size))
     clear hO hQ hF
     go_wp2
     go_ret2
     exact ⟨_,rfl,HO.out,HB.out⟩
end Go.Proofs.YtmalmijdjhkklaaGreat
end
