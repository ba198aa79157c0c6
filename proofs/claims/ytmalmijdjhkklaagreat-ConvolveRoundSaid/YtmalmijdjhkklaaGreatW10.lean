/- A closure asked of each of a slice of powers: slices.IndexFunc, ContainsFunc; the closure of sieve.Generator. -/
import Derived.Test.YtmalmijdjhkklaaGreatW9
import Derived.Deep.RegionWith
import Derived.Deep.LoopGhost
import Derived.Test.YtmalmijdjhkklaaGreatW5
set_option linter.unusedVariables false
set_option linter.unusedSimpArgs false
set_option maxRecDepth 100000
set_option maxHeartbeats 16000000
namespace Go.Proofs.YtmalmijdjhkklaaGreat
open Go.RowKit
section
open Alg (FacI IsFac Prime)
def zAF (w:World) (B:Nat) (A:Option Addr) (fs:List (Nat×Nat)):Prop:=
 0<fs.length→ ∃b o,A=some ⟨b,o,none⟩∧b<B∧ ∀j,j<fs.length→w.cell? ⟨b,o+j*2,none⟩=some (.int .u64 (fs.getD j (0,0)).1)∧w.cell? ⟨b,o+j*2+1,none⟩=some (.int .i64 (fs.getD j (0,0)).2)
theorem zAF.below {w w':World} {B:Nat} {A:Option Addr} {fs:List (Nat×Nat)} (h:zAF w B A fs) (hb:Below B w w'):zAF w' B A fs:=fun hl=>by
 obtain ⟨b,o,e,hlt,hc⟩:=h hl
 exact ⟨b,o,e,hlt,fun j hj=>⟨(hb.cell (p:=⟨b,_,none⟩) hlt).trans (hc j hj).1,(hb.cell (p:=⟨b,_,none⟩) hlt).trans (hc j hj).2⟩⟩
theorem zAF.mono {w:World} {B B':Nat} {A:Option Addr} {fs:List (Nat×Nat)} (h:zAF w B A fs) (hb:B≤B'):zAF w B' A fs:=fun hl=>by
 obtain ⟨b,o,e,hlt,hc⟩:=h hl
 exact ⟨b,o,e,by omega,hc⟩
theorem zOB (fs:List (Nat×Nat)) (j:Nat) (h:j<fs.length):(zO3 fs)[j*2]? =some (.int .u64 (fs.getD j (0,0)).1)∧(zO3 fs)[j*2+1]? =some (.int .i64 (fs.getD j (0,0)).2):=by
 induction fs generalizing j with
 | nil=>simp at h
 | cons x t ih=>
  cases j with
  | zero=>simp [zO3]
  | succ j=>
   have:=ih j (by simpa using h)
   have e:zO3 (x :: t)= .int .u64 x.1 :: .int .i64 x.2 :: zO3 t:=by simp [zO3]
   rw [e,show (j+1)*2=j*2+1+1 by omega]
   simpa using this
theorem zAF.of_own {w:World} {base:Nat} {e:TypeId} {v:Value} {fs:List (Nat×Nat)} (h:w.ownsRow base e 2 v fs.length (zO3 fs)): ∃A c,v= .slice A fs.length c∧zAF w w.heap.size A fs:=by
 rcases Nat.eq_zero_or_pos fs.length with h0|h0
 ·rcases h.2 with ⟨rfl,hl⟩|⟨g,cap,cur,rfl,_⟩
  ·exact ⟨none,0,by rw [h0],fun hp=>by omega⟩
  ·exact ⟨_,cap,rfl,fun hp=>by omega⟩
 ·obtain ⟨g,cap,rfl,_,hlt⟩:=h.form h0
  refine ⟨_,cap,rfl,fun _=>⟨g,0,rfl,hlt,fun j hj=>?_⟩⟩
  have hg:=zOB fs j hj
  have e1:=h.cells (g:=g) rfl (j*2) _ hg.1
  have e2:=h.cells (g:=g) rfl (j*2+1) _ hg.2
  have ea: ∀n,(⟨g,0,none⟩:Addr).add n=⟨g,0+n,none⟩:=fun n=>by unfold Addr.add;split <;> simp_all
  rw [ea] at e1 e2
  exact ⟨e1,by rw [Nat.add_assoc];exact e2⟩
theorem below_drewN {B:Nat} {a w:World} (h:Below B a w) (n:Nat):Below B a (w.drewN n):=⟨h.os,h.tape,h.output,h.size,h.block⟩
theorem zJg (A:Option Addr) (c:Nat) (ga gp:Addr) (fs:List (Nat×Nat)) (p:Nat×Nat→Bool) (w:World) (hl:fs.length≤140737488351232) (hR:zAF w w.heap.size A fs)
  (hp: ∀x ∈ fs,∀W,Below w.heap.size w W→Calls Tryz.prog 209 #[.agg #[.int .u64 x.1, .int .i64 x.2], .pointer (some ga), .pointer (some gp)] W fun e W'=>e= .returned (.bool (p x))∧Below W.heap.size W W'):
  Calls Tryz.prog 223 #[.slice A fs.length c, .func (.func 209) #[] #[.pointer (some ga), .pointer (some gp)]] w fun e w'=> ∃i:Int,e= .returned (.int .i64 i)∧(0≤i↔fs.any p=true)∧ -1≤i∧Below w.heap.size w w':=by
 go_enter Tryz.func223,Tryz.ntmps223
 go_wp2
 go_loopw [5,8] (fun _ i wr=> ∃k:Nat,i= .int .i64 k∧k≤fs.length∧Hid ((fs.take k).any p=false)∧Below w.heap.size w wr) (fun _ i _=>fs.length-(intOf i).toNat)
 case atStart=>exact ⟨0,rfl,by omega,zy (by simp),Below.refl _ _⟩
 case round=>
  obtain ⟨k,rfl,hk,hn,hB⟩:=hrel
  by_cases hlt:k<fs.length
  ·obtain ⟨b,o,rfl,hbl,hc⟩:=hR (by omega)
   have h1:=(hc k hlt).1
   have h2:=(hc k hlt).2
   have g1:wr.cell? ⟨b,o+k*2,none⟩=some (.int .u64 (fs.getD k (0,0)).1):=(hB.cell (p:=⟨b,_,none⟩) hbl).trans h1
   have g2:wr.cell? ⟨b,o+k*2+1,none⟩=some (.int .i64 (fs.getD k (0,0)).2):=(hB.cell (p:=⟨b,_,none⟩) hbl).trans h2
   obtain ⟨x,hx⟩: ∃x,x=fs.getD k (0,0):=⟨_,rfl⟩
   rw [←hx] at g1 g2
   have HX:=zy hx
   clear hx h1 h2 hc hR
   go_wp2_with fail
   have hxm:x ∈ fs:=by
    rw [HX.out,List.getD_eq_getElem?_getD,List.getElem?_eq_getElem hlt]
    exact List.getElem_mem hlt
   have htk:Hid ((fs.take (k+1)).any p=(p x)):=zy (by
    rw [List.take_succ_eq_append_getElem hlt,List.any_append,hn.out,HX.out,List.getD_eq_getElem?_getD,List.getElem?_eq_getElem hlt];simp)
   refine (hp x hxm _ hB).mono ?_
   rintro e w2 ⟨rfl,hB2⟩
   have hB3:Below w.heap.size w w2:=hB.trans (hB2.mono hB.size)
   clear hB hB2 g1 g2
   cases hpx:p x with
   | true=>
    have HA:Hid (fs.any p=true):=zy (List.any_eq_true.2 ⟨x,hxm,hpx⟩)
    go_wp2
    go_ret
    exact ⟨k,rfl,by simp [HA.out],by omega,hB3⟩
   | false=>
    have HT:Hid ((fs.take (k+1)).any p=false):=zy (by rw [htk.out,hpx])
    clear hpx htk
    go_wp2
    go_roundw
    case rel=>exact ⟨k+1,by go_num,by omega,HT,hB3⟩
    case measure=>simp [intOf];omega
  ·obtain rfl:k=fs.length:=by omega
   have hz:=hn.out
   rw [List.take_length] at hz
   have HZ:=zy hz
   clear hz hn
   go_wp2
   go_ret
   exact ⟨-1,rfl,by rw [HZ.out];simp,by omega,hB⟩
theorem zED (A:Option Addr) (c:Nat) (ga gp:Addr) (fs:List (Nat×Nat)) (p:Nat×Nat→Bool) (w:World) (hl:fs.length≤140737488351232) (hR:zAF w w.heap.size A fs)
  (hp: ∀x ∈ fs,∀W,Below w.heap.size w W→Calls Tryz.prog 209 #[.agg #[.int .u64 x.1, .int .i64 x.2], .pointer (some ga), .pointer (some gp)] W fun e W'=>e= .returned (.bool (p x))∧Below W.heap.size W W'):
  Calls Tryz.prog 208 #[.slice A fs.length c, .func (.func 209) #[] #[.pointer (some ga), .pointer (some gp)]] w fun e w'=>e= .returned (.bool (fs.any p))∧Below w.heap.size w w':=by
 have hI:=zy (zJg A c ga gp fs p w hl hR hp)
 clear hp hR
 go_enter Tryz.func208,Tryz.ntmps208
 go_wp2_with fail
 refine hI.out.mono ?_
 rintro e w1 ⟨i,rfl,hi,hi1,hB⟩
 have H:=zy hi
 clear hi
 go_wp2
 go_ret
 exact ⟨zRC (by rw [Bool.eq_iff_iff,←H.out];simp),hB⟩
theorem zIt (x:Nat×Nat) (g p:Int) (b1 b2:Nat) (w:World) (hx0:0<x.1) (hx:x.1≤4294967296) (hg0:0≤g) (hg:g≤18446744073709551615) (hp0:2≤p) (hp:p≤4294967296)
  (c1:w.cell? ⟨b1,0,none⟩=some (.int .u64 g)) (c2:w.cell? ⟨b2,0,none⟩=some (.int .u64 p)):
  Calls Tryz.prog 209 #[.agg #[.int .u64 x.1, .int .i64 x.2], .pointer (some ⟨b1,0,none⟩), .pointer (some ⟨b2,0,none⟩)] w fun e w'=>e= .returned (.bool (g^((p-1)/x.1).toNat%p == 1))∧Below w.heap.size w w':=by
 have hd0:0≤(p-1)/x.1:=Int.ediv_nonneg (by omega) (by omega)
 have hd1:(p-1)/x.1≤p-1:=Int.ediv_le_self _ (by omega)
 have l1:=World.block_lt_of_cell? w _ c1
 have l2:=World.block_lt_of_cell? w _ c2
 go_enter Tryz.func209,Tryz.ntmps209
 go_wp2
 go_quiet ((go_at_call 210;exact Calls.quiet_of (zLM _ _ _ _ hg0 hg hd0 (by omega) (by omega) (by omega))))
 go_wp2
 go_ret
 refine ⟨rfl,?_⟩
 exact below_drewN ((Below.refl _ _).alloc (Nat.le_refl _) _) _
end

section
open Alg (FacI IsFac Prime GenOk IsGen)
theorem zDs {B:Nat} {w w':World} {b o:Nat} {v:Value} (hB:Below B w w') (h:b<B) (hc:w.cell? ⟨b,o,none⟩=some v):w'.cell? ⟨b,o,none⟩=some v:=(hB.cell (p:=⟨b,o,none⟩) h).trans hc
theorem zHK {B:Nat} {w w':World} {b o:Nat} {v:Bool} (hB:Below B w w') (h:b<B) (hc:w.frozen? ⟨b,o,none⟩=v):w'.frozen? ⟨b,o,none⟩=v:=(hB.frozen (p:=⟨b,o,none⟩) h).trans hc
theorem zIv (p:Nat) (w:World) (h3:3≤p) (hp:p≤65536) (hpr:Prime p):
  Calls Tryz.prog 180 #[.int .u64 p] w fun e w'=> ∃g:Nat,e= .returned (.int .u64 g)∧IsGen p g∧Below w.heap.size w w':=by
 have ho:Hid ((decide (2<(p:Int)) && decide ((p:Int)≤65536) && isP (p:Int).toNat)=true):=zy (by
  simp;exact ⟨by omega,zJL.2 hpr⟩)
 have e1:(p:Int)-1=((p-1:Nat):Int):=by omega
 have E1:=zy e1
 clear e1
 go_enter Tryz.func180,Tryz.ntmps180
 go_wp2_with fail
 refine (zMA _ _ (by omega) (by omega)).mono ?_
 rintro e w1 ⟨rfl,hB⟩
 rw [ho.out]
 have hs1:w.heap.size+1≤w1.heap.size:=by have:=hB.size;simpa using this
 have cp1:w1.cell? ⟨w.heap.size,0,none⟩=some (.int .u64 p):=(hB.cell (p:=⟨w.heap.size,0,none⟩) (by simp)).trans (World.cell?_alloc_at _ _ _ _ rfl)
 have hB1:Below w.heap.size w w1:=((Below.refl _ _).alloc (Nat.le_refl _) _).trans (hB.mono (by simp))
 clear hB
 go_wp2_with fail
 rw [E1.out]
 refine (zG8 (p-1) _ (by omega) (by omega)).mono ?_
 rintro e w2 ⟨v,fs,rfl,hF,hown,hB⟩
 obtain ⟨A,c,rfl,hR⟩:=zAF.of_own hown
 have hlen:fs.length≤140737488351232:=by
  have h1:=Alg.len_le hF.each (Nat.le_of_eq hF.prod)
  have h2:=(Nat.pow_le_pow_iff_right (a:=2) (by omega)).1 (show 2^fs.length≤2^32 by omega)
  omega
 have hs2:=hB.size
 have cp2:w2.cell? ⟨w.heap.size,0,none⟩=some (.int .u64 p):=zDs hB (by omega) cp1
 have hB2:Below w.heap.size w w2:=hB1.trans (hB.mono (by omega))
 have HF:=zy hF
 clear hB hB1 cp1 hown hF
 obtain ⟨r,hr2,hrp,hr⟩:=Alg.gen_bound hpr h3
 have HR:=zy hr
 clear hr
 go_wp2
 go_loopw [13] (fun _ wr=> ∃g:Nat,2≤g∧g≤r∧wr.cell? ⟨w2.heap.size,0,none⟩=some (.int .u64 g)∧wr.frozen? ⟨w2.heap.size,0,none⟩=false∧Below w2.heap.size w2 wr∧w2.heap.size+1≤wr.heap.size∧Hid (∀h,2≤h→h<g→ ¬GenOk p h))
  (fun _ wr=>(r+1-intOf ((wr.cell? ⟨w2.heap.size,0,none⟩).getD undef)).toNat)
 case atStart=>exact ⟨2,by omega,hr2,World.cell?_alloc_at _ _ _ _ rfl,World.frozen?_alloc_at _ _ _ _ rfl,(Below.refl _ _).alloc (Nat.le_refl _) _,by simp,zy (fun h a b=>by omega)⟩
 case round=>
  obtain ⟨g,hg2,hgr,cg,fg,hB3,hsz,hno⟩:=hrel
  have cp3:=zDs hB3 (show w.heap.size<w2.heap.size by omega) cp2
  have hC:=zy (zED A c ⟨w2.heap.size,0,none⟩ ⟨w.heap.size,0,none⟩ fs (fun x=>(g:Int)^(((p:Int)-1)/x.1).toNat%(p:Int) == 1) wr hlen ((hR.below hB3).mono (by omega)) (fun x hx W hW=>by
   have hx1:=(HF.out.each x hx).1.1
   have hx2:=Nat.le_of_dvd (by omega) (HF.out.dvd hx)
   exact zIt x g p w2.heap.size w.heap.size W (by omega) (by omega) (by omega) (by omega) (by omega) (by omega) (zDs hW (by omega) cg) (zDs hW (by omega) cp3)))
  have hT:=zy (Alg.test_iff (p:=p) (g:=g) HF.out)
  clear cp2 hR
  go_wp2_with fail
  refine hC.out.mono ?_
  rintro e w4 ⟨rfl,hB4⟩
  have cg4:=zDs hB4 (by omega) cg
  have fg4:=zHK hB4 (by omega) fg
  have hs4:=hB4.size
  have hB5:Below w2.heap.size w2 w4:=hB3.trans (hB4.mono (by omega))
  have CG:=zy cg
  clear cp3 hB3 hB4 cg fg
  cases hb:fs.any (fun x=>(g:Int)^(((p:Int)-1)/x.1).toNat%(p:Int) == 1) with
  | true=>
   have hng: ¬GenOk p g:=fun h=>by
    have:=hT.out.2 (fun _=>h)
    rw [hb] at this
    cases this
   have hgne:g≠r:=fun h=>hng (h ▸ HR.out)
   have HN:=zy hng
   clear hb hng hT hC
   go_wp2
   go_roundw
   case rel=>
    refine ⟨g+1,by omega,by omega,World.cell?_setCell_same _ _ _ cg4,by simpa using fg4,hB5.setCell (Nat.le_refl _) _,by simpa using (by omega:w2.heap.size+1≤w4.heap.size),zy (fun h a b=>?_)⟩
    by_cases e:h=g
    ·exact e ▸ HN.out
    ·exact hno.out h a (by omega)
   case measure=>
    rw [World.cell?_setCell_same _ _ _ cg4,CG.out]
    simp [intOf];omega
  | false=>
   have HG:=zy (hT.out.1 hb (by omega))
   clear hb hT hC
   go_wp2
   go_ret
   exact ⟨g,rfl,⟨hg2,HG.out,hno.out⟩,hB2.trans (hB5.mono (by omega))⟩
end

section
open Alg (Prime)
theorem zVv {n d:Nat} (h2:2≤n) (hd:n<d*d) (h: ∀c,2≤c→c<d→ ¬c∣n):Prime n:=by
 refine ⟨h2,fun c hc=>?_⟩
 obtain ⟨k,hk⟩:=hc
 by_cases h1:c=1
 ·exact .inl h1
 ·by_cases hk1:k=1
  ·subst hk1;exact .inr (by omega)
  ·exfalso
   have hc0:c≠0:=fun e=>by subst e;omega
   have hk0:k≠0:=fun e=>by subst e;omega
   rcases Nat.lt_or_ge c d with hcd|hcd
   ·exact h c (by omega) hcd ⟨k,hk⟩
   ·rcases Nat.lt_or_ge k d with hkd|hkd
    ·exact h k (by omega) hkd ⟨c,by rw [hk,Nat.mul_comm]⟩
    ·have:=Nat.mul_le_mul hcd hkd
     omega
theorem zSv (n:Nat) (w:World) (h1:2≤n) (h2:n≤4294967296):
  Calls Tryz.prog 158 #[.int .u64 n] w fun e w'=>e= .returned (.bool (isP n))∧w=w':=by
 have t1:(decide ((n:Int)<2))=false:=by simp;omega
 have t2:(decide ((4294967296:Int)<n))=false:=by simp;omega
 go_enter Tryz.func158,Tryz.ntmps158
 go_wp2
 go_loop [3] (fun D=> ∃d:Nat,D= .int .u64 d∧2≤d∧d≤65537∧Hid (∀c,2≤c→c<d→ ¬c∣n)) (fun D=>(65540-intOf D).toNat)
 case atStart=>exact ⟨2,rfl,by omega,by omega,zy (fun c a b=>by omega)⟩
 case round=>
  obtain ⟨d,rfl,hd2,hd,hno⟩:=hrel
  have hdd:d*d≤65537*65537:=Nat.mul_le_mul hd hd
  have hddi:((d:Int)*d)=((d*d:Nat):Int):=by simp
  have hw:IntKind.u64.wrap ((d:Int)*d)=(d:Int)*d:=IntWalk.u64_in _ (by rw [hddi];omega)
  by_cases hb:d*d≤n
  ·have tb:decide ((d:Int)*d≤n)=true:=by rw [hddi];simp;omega
   have hd3:d≤65536:=by
    rcases Nat.lt_or_ge 65536 d with h|h
    ·have:65537*65537≤d*d:=Nat.mul_le_mul h h
     omega
    ·exact h
   by_cases hdv:d∣n
   ·have tm:((n:Int)%d == 0)=true:=by
     rw [beq_iff_eq,←Int.natCast_emod,Nat.mod_eq_zero_of_dvd hdv];rfl
    have HP:Hid (isP n=false):=zy (zJK.2 (fun hp=>by
     have h5:2*d≤d*d:=Nat.mul_le_mul_right d hd2
     rcases hp.2 d hdv with h3|h3 <;> omega))
    clear hdv hddi hdd
    go_wp2
    go_ret
    exact ⟨zRC HP.out.symm,rfl⟩
   ·have tm:((n:Int)%d == 0)=false:=by
     rw [beq_eq_false_iff_ne,←Int.natCast_emod]
     intro h0
     exact hdv (Nat.dvd_of_mod_eq_zero (by omega))
    have HN:Hid (∀c,2≤c→c<d+1→ ¬c∣n):=zy (fun c a b=>by
     by_cases e:c=d
     ·exact e ▸ hdv
     ·exact hno.out c a (by omega))
    clear hdv hddi hdd
    go_wp2
    go_round
    case rel=>exact ⟨d+1,by go_num,by omega,by omega,HN⟩
    case measure=>simp [intOf];omega
  ·have tb:decide ((d:Int)*d≤n)=false:=by rw [hddi];simp;omega
   have HP:Hid (isP n=true):=zy (zJL.2 (zVv h1 (by omega) hno.out))
   clear hddi hdd
   go_wp2
   go_ret
   exact ⟨zRC HP.out.symm,rfl⟩
theorem zSp (n:Int) (w:World) (h0: -9223372036854775808≤n) (h1:n≤9223372036854775807):
  Calls Tryz.prog 76 #[.int .i64 n] w fun e w'=>e= .returned (.int .i64 (pd n))∧w=w':=by
 go_enter Tryz.func76,Tryz.ntmps76
 go_wp2
 go_loop [3] (fun R=> ∃r:Int,R= .int .i64 r∧(zA6 n r∨(r=8192∧4096<n))∧1≤r∧r≤8192) (fun R=>(8200-intOf R).toNat)
 case atStart=>exact ⟨1,rfl, .inl (.inl rfl),by omega,by omega⟩
 case round=>
  obtain ⟨r,rfl,hr,hr1,hr2⟩:=hrel
  by_cases hle:r≤4096
  ·by_cases hlt:n≤r
   ·have H:Hid (r=pd n):=zy (by
     rcases hr with hr|hr
     ·exact hr.done (by omega) hlt
     ·omega)
    clear hr
    go_wp2
    go_ret
    exact ⟨zRD H.out,rfl⟩
   ·have H:Hid (zA6 n (r*2)∨(r*2=8192∧4096<n)):=zy (by
     rcases hr with hr|hr
     ·unfold zA6 at *
      omega
     ·omega)
    clear hr
    go_wp2
    go_round
    case rel=>exact ⟨r*2,by go_num,H.out,by omega,by omega⟩
    case measure=>simp [intOf];omega
  ·have H:Hid (pd n=0):=zy (by
    unfold pd
    rcases hr with hr|hr
    ·unfold zA6 at hr;omega
    ·rw [if_pos hr.2])
   clear hr
   go_wp2
   go_ret
   exact ⟨zRD H.out.symm,rfl⟩
def RdI (w:World) (B:Nat) (k:IntKind) (A:Option Addr) (xs:List Int):Prop:=
 0<xs.length→ ∃b o,A=some ⟨b,o,none⟩∧b<B∧ ∀j,j<xs.length→w.cell? ⟨b,o+j,none⟩=some (.int k (xs.getD j 0))
theorem RdI.below {w w':World} {B:Nat} {k:IntKind} {A:Option Addr} {xs:List Int} (h:RdI w B k A xs) (hb:Below B w w'):RdI w' B k A xs:=fun hl=>by
 obtain ⟨b,o,e,hlt,hc⟩:=h hl
 exact ⟨b,o,e,hlt,fun j hj=>zDs hb hlt (hc j hj)⟩
theorem RdI.mono {w:World} {B B':Nat} {k:IntKind} {A:Option Addr} {xs:List Int} (h:RdI w B k A xs) (hb:B≤B'):RdI w B' k A xs:=fun hl=>by
 obtain ⟨b,o,e,hlt,hc⟩:=h hl
 exact ⟨b,o,e,by omega,hc⟩
def ints (k:IntKind) (xs:List Int):List Value:=xs.map (Value.int k)
theorem RdI.of_own {w:World} {base:Nat} {e:TypeId} {k:IntKind} {v:Value} {xs:List Int} (h:w.ownsRow base e 1 v xs.length (ints k xs)): ∃A c,v= .slice A xs.length c∧RdI w w.heap.size k A xs:=by
 rcases Nat.eq_zero_or_pos xs.length with h0|h0
 ·rcases h.2 with ⟨rfl,hl⟩|⟨g,cap,cur,rfl,_⟩
  ·exact ⟨none,0,by rw [h0],fun hp=>by omega⟩
  ·exact ⟨_,cap,rfl,fun hp=>by omega⟩
 ·obtain ⟨g,cap,rfl,_,hlt⟩:=h.form h0
  refine ⟨_,cap,rfl,fun _=>⟨g,0,rfl,hlt,fun j hj=>?_⟩⟩
  have e1:=h.cells (g:=g) rfl j (.int k (xs.getD j 0)) (by simp [ints,List.getElem?_eq_getElem hj,List.getD_eq_getElem?_getD])
  have ea: ∀n,(⟨g,0,none⟩:Addr).add n=⟨g,0+n,none⟩:=fun n=>by unfold Addr.add;split <;> simp_all
  rw [ea] at e1
  exact e1
theorem zU3 {xs ys:List Int} {k:Nat} (h:xs.take k=ys.take k) (hk:k<xs.length) (hk':k<ys.length) (e:xs.getD k 0=ys.getD k 0):xs.take (k+1)=ys.take (k+1):=by
 rw [List.take_succ_eq_append_getElem hk,List.take_succ_eq_append_getElem hk',h]
 simp only [List.getD_eq_getElem?_getD,List.getElem?_eq_getElem hk,List.getElem?_eq_getElem hk',Option.getD_some] at e
 rw [e]
end

section
open Alg
theorem zSa (n:Int) (w:World) (h1:0≤n) (h2:n≤18446744073709551615):
  Calls Tryz.prog 95 #[.int .u64 n] w fun e w'=>e= .returned (.bool (decide (2<n) && decide (n≤65536) && isP n.toNat))∧w=w':=by
 by_cases a:2<n
 ·by_cases b:n≤65536
  ·obtain ⟨k,rfl⟩:=Int.eq_ofNat_of_zero_le h1
   go_enter Tryz.func95,Tryz.ntmps95
   go_wp2_with (go_at_call 158;refine (zSv k _ (by omega) (by omega)).mono ?_;rintro e w1 ⟨rfl,rfl⟩)
   go_ret
   exact ⟨zRC (by simp;omega),rfl⟩
  ·go_enter Tryz.func95,Tryz.ntmps95
   go_wp2
   go_ret
   exact ⟨zRC (by simp;omega),rfl⟩
 ·go_enter Tryz.func95,Tryz.ntmps95
  go_wp2
  go_ret
  exact ⟨zRC (by simp;omega),rfl⟩
theorem zSe (g p N:Nat) (w:World) (hp:2≤p) (hp6:p≤65536) (hg:g<p) (hN:0<N) (hNp:N<p) (h1:(g:Int)^N%(p:Int)=1) (hno: ∀k,0<k→k<N→(g:Int)^k%(p:Int)≠1):
  Calls Tryz.prog 159 #[.int .u64 g, .int .u64 p] w fun e w'=>e= .returned (.int .u64 N)∧w=w':=by
 have tp:((p:Int) == 0)=false:=by simp;omega
 have e1:(g:Int)%(p:Int)=(g:Int):=Int.emod_eq_of_lt (by omega) (by omega)
 have HK:=zy (And.intro h1 hno)
 clear h1 hno
 go_enter Tryz.func159,Tryz.ntmps159
 go_wp2
 go_loopw [5,6] (fun C X wr=> ∃(n:Nat) (x:Int),C= .int .u64 n∧X= .int .u64 x∧1≤n∧n≤N∧0≤x∧x<p∧Hid (x=(g:Int)^n%(p:Int))∧wr=w) (fun C _ _=>N-(intOf C).toNat)
 case atStart=>exact ⟨1,g,rfl,by first|rfl|rw [e1],by omega,by omega,by omega,by omega,zy (by rw [Int.pow_one,e1]),rfl⟩
 case round=>
  clear e1
  obtain ⟨n,x,rfl,rfl,n1,nN,x0,x1,hx,rfl⟩:=hrel
  by_cases hn:n=N
  ·have hx1:x=1:=by rw [hx.out,hn];exact HK.out.1
   subst hx1
   subst hn
   go_wp2
   go_ret
   exact ⟨rfl,rfl⟩
  ·have hx1:x≠1:=by rw [hx.out];exact HK.out.2 n (by omega) (by omega)
   have t1:(x != 1)=true:=by simp [hx1]
   have m0:0≤x*g:=Int.mul_nonneg x0 (by omega)
   have m1:x*g≤65536*65536:=Int.mul_le_mul (by omega) (by omega) (by omega) (by omega)
   obtain ⟨y,hy⟩: ∃y,x*g%p=y:=⟨_,rfl⟩
   have y0:0≤y:=by rw [←hy];exact Int.emod_nonneg _ (by omega)
   have y1:y<p:=by rw [←hy];exact Int.emod_lt_of_pos _ (by omega)
   have HY:Hid (y=(g:Int)^(n+1)%(p:Int)):=zy (by rw [←hy,hx.out,Int.mul_emod,Int.emod_emod,←Int.mul_emod,Int.pow_succ])
   go_wp2
   go_roundw
   case rel=>exact ⟨n+1,y,by go_num,by first|rfl|rw [hy],by omega,by omega,y0,y1,HY,by trivial⟩
   case measure=>simp [intOf];omega
theorem zIQ {p g:Nat} (hp:Prime p) (h2:1≤g) (hg:g<p): ∃N,0<N∧N<p∧(g:Int)^N%(p:Int)=1∧(∀k,0<k→k<N→(g:Int)^k%(p:Int)≠1)∧(N=p-1↔GenOk p g):=by
 haveI:NeZero p:=⟨by have:=hp.1;omega⟩
 have hz:zt p (g:Int)≠0:=fun h=>by
  have h1:=zt_val (p:=p) (g:Int)
  rw [h,Int.emod_eq_of_lt (by omega) (by omega)] at h1
  simp at h1;omega
 have hp2:=hp.1
 have hf:=fermat hp _ hz
 obtain ⟨N,hN⟩: ∃N,Ord (zt p (g:Int)) N:=by
  have key: ∀n,(0<n∧pw (zt p (g:Int)) n=1)→ ∃N,Ord (zt p (g:Int)) N:=by
   intro n
   induction n using Nat.strongRecOn with
   | _ n ih=>
    intro h
    by_cases hx: ∃k,k<n∧0<k∧pw (zt p (g:Int)) k=1
    ·obtain ⟨k,k1,k2⟩:=hx
     exact ih k k1 k2
    ·exact ⟨n,h.1,h.2,fun m m0 mn hm=>hx ⟨m,mn,m0,hm⟩⟩
  exact key (p-1) ⟨by omega,hf⟩
 have hle:N≤p-1:=Nat.le_of_dvd (by omega) (hN.dvd.1 hf)
 refine ⟨N,hN.1,by omega,(zt_pow_one hp2 g N).2 hN.2.1,fun k k0 kN h=>hN.2.2 k k0 kN ((zt_pow_one hp2 g k).1 h),fun h=>?_,fun h=>?_⟩
 ·exact GenOk.of_ord hp2 (h ▸ hN)
 ·have h1:=h.ord hp hz
  exact Nat.dvd_antisymm (hN.dvd.1 hf) (h1.dvd.1 hN.2.1)
theorem zRL (p:Nat) (w:World) (h3:3≤p) (hp6:p≤65536) (hp:Prime p):
  Calls Tryz.prog 96 #[.int .u64 p] w fun e w'=> ∃g:Nat,e= .returned (.int .u64 g)∧IsGen p g∧w=w':=by
 have ho:Hid ((decide (2<(p:Int)) && decide ((p:Int)≤65536) && isP (p:Int).toNat)=true):=zy (by
  simp;exact ⟨by omega,zJL.2 hp⟩)
 obtain ⟨r,r2,rp,hr⟩:=gen_bound hp h3
 have HP:=zy hp
 have HR:=zy hr
 clear hp hr
 go_enter Tryz.func96,Tryz.ntmps96
 go_wp2_with fail
 refine (zSa _ _ (by omega) (by omega)).mono ?_
 rintro e w1 ⟨rfl,rfl⟩
 rw [ho.out]
 go_wp2
 go_loopw [3] (fun C wr=> ∃g:Nat,C= .int .u64 g∧2≤g∧g≤r∧Hid (∀h,2≤h→h<g→ ¬GenOk p h)∧wr=w) (fun C _=>p-(intOf C).toNat)
 case atStart=>exact ⟨2,rfl,by omega,by omega,zy (fun h a b=>by omega),rfl⟩
 case round=>
  obtain ⟨g,rfl,g2,gr,hg,rfl⟩:=hrel
  obtain ⟨N,N0,Np,hN1,hN2,hN3⟩:=zIQ HP.out (g:=g) (by omega) (by omega)
  have HO:=zy (And.intro hN1 hN2)
  have HI:=zy hN3
  clear hN1 hN2 hN3
  have tl:decide ((g:Int)<p)=true:=by simp;omega
  go_wp2_with fail
  refine (zSe g p N _ (by omega) hp6 (by omega) N0 Np HO.out.1 HO.out.2).mono ?_
  rintro e w1 ⟨rfl,rfl⟩
  by_cases hN:N=p-1
  ·have tn:((N:Int) == (p:Int)-1)=true:=by simp;omega
   have HG:Hid (IsGen p g):=zy ⟨g2,HI.out.1 hN,hg.out⟩
   go_wp2
   go_ret
   exact ⟨g,rfl,HG.out,rfl⟩
  ·have tn:((N:Int) == (p:Int)-1)=false:=by simp;omega
   have hng: ¬GenOk p g:=fun h=>hN (HI.out.2 h)
   have hne:g≠r:=fun e=>hng (e ▸ HR.out)
   have HH:Hid (∀h,2≤h→h<g+1→ ¬GenOk p h):=zy (fun h a b=>by
    by_cases e:h=g
    ·rw [e];exact hng
    ·exact hg.out h a (by omega))
   clear hng
   go_wp2
   go_roundw
   case rel=>exact ⟨g+1,by go_num,by omega,by omega,HH,by trivial⟩
   case measure=>simp [intOf];omega
end

section
open Alg (Prime)
theorem zSu (n:Int) (w:World) (h0: -9223372036854775808≤n) (h1:n≤9223372036854775807):
  Calls Tryz.prog 111 #[.int .i64 n] w fun e w'=>e= .returned (.int .i64 (rpad n))∧w=w':=by
 by_cases a:3≤n
 ·by_cases b:n≤1024
  ·obtain ⟨k,rfl⟩:=Int.eq_ofNat_of_zero_le (show 0≤n by omega)
   by_cases hp:Prime k
   ·have hf:Hid (isP k=true):=zy (zJL.2 hp)
    have hr:Hid (pd (2*(k:Int)-3)=rpad k):=zy (by unfold rpad;rw [if_pos ⟨a,b,by simpa using hf.out⟩])
    go_enter Tryz.func111,Tryz.ntmps111
    go_wp2_with (first|(go_at_call 158;refine (zSv k _ (by omega) (by omega)).mono ?_;rintro e w1 ⟨rfl,rfl⟩;rw [hf.out])|(go_at_call 76;refine (zSp _ _ (by omega) (by omega)).mono ?_;rintro e w2 ⟨rfl,rfl⟩))
    go_ret
    exact ⟨zRD hr.out,rfl⟩
   ·have hf:Hid (isP k=false):=zy (zJK.2 hp)
    have hr:Hid (rpad k=0):=zy (by unfold rpad;rw [if_neg (fun h=>hp (zJL.1 (by simpa using h.2.2)))])
    go_enter Tryz.func111,Tryz.ntmps111
    go_wp2_with (go_at_call 158;refine (zSv k _ (by omega) (by omega)).mono ?_;rintro e w1 ⟨rfl,rfl⟩;rw [hf.out])
    go_ret
    exact ⟨zRD hr.out.symm,rfl⟩
  ·have hr:Hid (rpad n=0):=zy (by unfold rpad;rw [if_neg (fun h=>b h.2.1)])
   go_enter Tryz.func111,Tryz.ntmps111
   go_wp2
   go_ret
   exact ⟨zRD hr.out.symm,rfl⟩
 ·have hr:Hid (rpad n=0):=zy (by unfold rpad;rw [if_neg (fun h=>a h.1)])
  go_enter Tryz.func111,Tryz.ntmps111
  go_wp2
  go_ret
  exact ⟨zRD hr.out.symm,rfl⟩
end

section
open Alg (Prime IsGen)
theorem zTl {α:Type} (N:Nat) (f f':Nat→α) (a:Nat) (v:α) (_ha:a<N) (h1:f' a=v) (h2: ∀j,j<N→j≠a→f' j=f j):((List.range N).map f).set a v=(List.range N).map f':=by
 apply List.ext_getElem
 ·simp
 ·intro j hj hj'
  rw [List.getElem_set]
  split
  ·rename_i e;subst e;simp [h1]
  ·rename_i e
   simp at hj'
   simp [h2 j hj' (fun h=>e h.symm)]
def wex (n:Nat) (back:Bool) (j:Nat):Nat:=if back then (n-1-j)%(n-1) else j
def wkF (n g:Nat) (back:Bool) (i:Nat):List Int:=(List.range (n-1)).map fun j=>if wex n back j<i then (g:Int)^wex n back j%(n:Int) else 0
def wk (n g:Nat) (back:Bool):List Int:=(List.range (n-1)).map fun j=>(g:Int)^wex n back j%(n:Int)
theorem zWy {n j:Nat} (b:Bool) (hn:2≤n) (hj:j<n-1):wex n b j<n-1:=by
 unfold wex;split
 ·exact Nat.mod_lt _ (by omega)
 ·exact hj
theorem zWz {n j:Nat} (b:Bool) (hn:2≤n) (hj:j<n-1):wex n b (wex n b j)=j:=by
 unfold wex
 cases b
 ·simp
 ·simp only [if_true]
  rcases Nat.eq_zero_or_pos j with h0|h0
  ·subst h0;simp
  ·rw [Nat.mod_eq_of_lt (show n-1-j<n-1 by omega),Nat.mod_eq_of_lt (by omega)];omega
theorem zW7 {n g i:Nat} (b:Bool) (hn:2≤n) (hi:i<n-1):(wkF n g b i).set (wex n b i) ((g:Int)^i%(n:Int))=wkF n g b (i+1):=by
 unfold wkF
 refine zTl _ _ _ _ _ (zWy b hn hi) ?_ ?_
 ·rw [zWz b hn hi,if_pos (by omega)]
 ·intro j hj hne
  have:wex n b j≠i:=fun h=>hne (by rw [←h,zWz b hn hj])
  by_cases h:wex n b j<i
  ·rw [if_pos h,if_pos (by omega)]
  ·rw [if_neg h,if_neg (by omega)]
theorem zW8 (n g:Nat) (b:Bool):wkF n g b 0=List.replicate (n-1) 0:=by
 unfold wkF;simp [List.map_const']
theorem zW5 {n g:Nat} (b:Bool) (hn:2≤n):wkF n g b (n-1)=wk n g b:=by
 unfold wkF wk
 apply List.map_congr_left
 intro j hj
 rw [if_pos (zWy b hn (List.mem_range.1 hj))]
theorem zW6 (n g:Nat) (b:Bool) (i:Nat):(wkF n g b i).length=n-1:=by simp [wkF]
theorem zJm:(Tryz.prog.info? 3).map (fun i=>(i.zero,i.size,i.bytes))=some (some (.int .i64 0),1,8):=by kernel_rfl
theorem ints_set (k:IntKind) (xs:List Int) (j:Nat) (v:Int):(ints k xs).set j (.int k v)=ints k (xs.set j v):=by simp [ints,List.map_set]
theorem zJB (k:IntKind) (n:Nat):ints k (List.replicate n 0)=List.replicate n (.int k 0):=by simp [ints]
theorem zWt (n:Nat) (back:Bool) (w:World) (h3:3≤n) (hn:n≤1024) (hp:Prime n):
  Calls Tryz.prog 130 #[.int .i64 n, .bool back] w fun e w'=> ∃v g,e= .returned v∧IsGen n g∧w'.ownsRow w.heap.size 3 1 v (n-1) (ints .i64 (wk n g back))∧Below w.heap.size w w':=by
 obtain ⟨i0,hi,hz0,hz1,hz2⟩:=info_parts zJm
 have hr:Hid (1≤rpad n):=zy (by
  unfold rpad
  rw [if_pos ⟨by omega,by omega,by simpa using zJL.2 hp⟩]
  unfold pd
  repeat (first|omega|split))
 go_enter Tryz.func130,Tryz.ntmps130
 go_wp2_with fail
 refine (zSr _ _ (by omega) (by omega)).mono ?_
 rintro e w1 ⟨rfl,hB1⟩
 have t0:(rpad n == 0)=false:=beq_eq_false_iff_ne.2 (by have:=hr.out;omega)
 go_wp2_with fail
 refine (zIv n _ h3 (by omega) hp).mono ?_
 rintro e w2 ⟨g,rfl,hg,hB⟩
 have hgn:=hg.lt hp h3
 have hg2:=hg.1
 have hB2:Below w.heap.size w w2:=hB1.trans (hB.mono hB1.size)
 clear hB1 hB t0
 go_wp2_with (at_make;refine wpList_make_full _ rfl _ _ 78 rfl w.heap.size 3 i0 (.int .i64 0) 1 Tryz.underlying78 hi hz0 hz1 _ _ _ _ (n-1) rfl rfl ?l1 ?l2 ?b2 ?b3 hB2.size ?_)
 case l1=>omega
 case l2=>omega
 case b2=>rw [hz2];omega
 case b3=>unfold maxLen;omega
 intro w3 hown hgrow
 have hown0:w3.ownsRow w.heap.size 3 1 (.slice (some ⟨w2.heap.size,0,none⟩) (n-1) (n-1)) (n-1) (ints .i64 (wkF n g back 0)):=by
  rw [zW8,zJB,←toList_madeCells_one];exact hown
 have hB3:Below w.heap.size w w3:=hB2.grown hgrow hB2.size (fun k h=>by cases h)
 obtain ⟨G,hG⟩: ∃G,G=w2.heap.size:=⟨_,rfl⟩
 rw [←hG] at hown0
 have hGb:w.heap.size≤G:=by rw [hG];exact hB2.size
 rw [←hG]
 have ex:Hid ((1:Int)=(g:Int)^0%(n:Int)):=zy (by rw [Int.pow_zero,Int.emod_eq_of_lt (by omega) (by omega)])
 clear hown hgrow hB2 hG
 go_wp2
 go_loopw [7,22] (fun X I wr=> ∃i:Nat,∃x:Int,X= .int .i64 x∧I= .int .i64 i∧i≤n-1∧0≤x∧x<n∧Hid (x=(g:Int)^i%(n:Int))∧wr.ownsRow w.heap.size 3 1 (.slice (some ⟨G,0,none⟩) (n-1) (n-1)) (n-1) (ints .i64 (wkF n g back i))∧Below w.heap.size w wr)
  (fun _ I _=>n-(intOf I).toNat)
 case atStart=>exact ⟨0,1,rfl,rfl,by omega,by omega,by omega,ex,hown0,hB3⟩
 case round=>
  clear hown0 hB3
  obtain ⟨i,x,rfl,rfl,hi1,hx0,hx1,hx,hown,hB⟩:=hrel
  by_cases hlt:i<n-1
  ·have hb1:0≤x*g:=Int.mul_nonneg hx0 (by omega)
   have hb2:x*g≤1024*1024:=Int.mul_le_mul (by omega) (by omega) (by omega) (by omega)
   have m0:=Int.emod_nonneg (x*g) (show (n:Int)≠0 by omega)
   have m1:=Int.emod_lt_of_pos (x*g) (show (0:Int)<n by omega)
   have hnx:Hid (x*g%n=(g:Int)^(i+1)%(n:Int)):=zy (by
    rw [hx.out,Int.pow_succ,Int.mul_emod,Int.emod_emod_of_dvd _ ⟨1,by simp⟩,←Int.mul_emod])
   have hw:=zWy back (show 2≤n by omega) hlt
   have hst:=hown.stored (wex n back i) (.int .i64 x)
   have hrow:ints .i64 (wkF n g back (i+1))=(ints .i64 (wkF n g back i)).set (wex n back i) (.int .i64 x):=by
    rw [ints_set,hx.out,zW7 back (by omega) hlt]
   have hfr:=hown.frozenAt (wex n back i)
   have hce:=hown.cellAt (wex n back i) (by omega)
   obtain ⟨old,hold⟩: ∃old,(ints .i64 (wkF n g back i))[wex n back i]? =some old:=⟨_,List.getElem?_eq_getElem (by simp [ints,zW6];exact hw)⟩
   rw [hold] at hce
   have hO:Hid ((wr.setCell ⟨G,wex n back i,none⟩ (.int .i64 x)).ownsRow w.heap.size 3 1 (.slice (some ⟨G,0,none⟩) (n-1) (n-1)) (n-1) (ints .i64 (wkF n g back (i+1)))):=zy (by rw [hrow];exact hst.1)
   clear hst hrow hold hown
   cases back with
   | false=>
    have ew:wex n false i=i:=rfl
    rw [ew] at hfr hce hO hw
    clear ew
    go_wp2
    go_roundw
    case rel=>exact ⟨i+1,x*g%n,by first|rfl|go_num,by go_num,by omega,m0,m1,zy hnx.out,hO.out,hB.setCell hGb _⟩
    case measure=>simp [intOf];omega
   | true=>
    have ew:(((n:Int)-1-i)%((n:Int)-1))=((wex n true i:Nat):Int):=by
     unfold wex
     simp only [if_true]
     rw [Int.natCast_emod]
     rw [show ((n-1-i:Nat):Int)=(n:Int)-1-i by omega,show ((n-1:Nat):Int)=(n:Int)-1 by omega]
    have hd:((n:Int)-1 == 0)=false:=beq_eq_false_iff_ne.2 (by omega)
    obtain ⟨a,ha⟩: ∃a,a=wex n true i:=⟨_,rfl⟩
    rw [←ha] at hfr hce hO hw ew
    clear ha
    go_wp2
    go_roundw
    case rel=>exact ⟨i+1,x*g%n,by first|rfl|go_num,by go_num,by omega,m0,m1,zy hnx.out,hO.out,hB.setCell hGb _⟩
    case measure=>simp [intOf];omega
  ·obtain rfl:i=n-1:=by omega
   go_wp2
   go_ret
   exact ⟨_,g,rfl,hg,by rw [←zW5 back (show 2≤n by omega)];exact hown,hB⟩
end

section
end

section
open Alg (Prime IsGen GenOk)
theorem RdI.lit (w:World) (k:IntKind) (t:TypeId) (xs:List Int):RdI (w.alloc (.cells (ints k xs).toArray t)) (w.heap.size+1) k (some ⟨w.heap.size,0,none⟩) xs:=fun _=>by
 refine ⟨w.heap.size,0,rfl,by omega,fun j hj=>?_⟩
 rw [Nat.zero_add,World.cell?_alloc_at _ _ _ _ rfl]
 simp [ints,hj,List.getD_eq_getElem?_getD]
section
open Alg
theorem zWq {n g i:Nat} (hp:Prime n) (h3:3≤n) (hg:IsGen n g) (hi:i<n-1):((g:Int)^i%(n:Int))*((g:Int)^wex n true i%(n:Int))%(n:Int)=1:=by
 haveI:NeZero n:=⟨by omega⟩
 rw [←Int.mul_emod,←Int.pow_add]
 refine (zt_pow_one hp.1 g _).2 ?_
 have ho:=hg.ord hp h3
 refine ho.dvd.2 ?_
 unfold wex
 simp only [if_true]
 rcases Nat.eq_zero_or_pos i with h0|h0
 ·subst h0;simp
 ·rw [Nat.mod_eq_of_lt (by omega),show i+(n-1-i)=n-1 by omega];exact Nat.dvd_refl _
end
theorem zWA (n g:Nat) (b:Bool):(wk n g b).length=n-1:=by simp [wk]
end

section
theorem zSV (A B:Option Addr) (c d n:Nat) (xs ys:List Int) (w:World) (hx:xs.length≤140737488351232) (hy:ys.length≤140737488351232) (hX:RdI w n .u64 A xs) (hY:RdI w n .u64 B ys):
   Calls Tryz.prog 35 #[.slice A xs.length c, .slice B ys.length d] w fun e w'=>e= .returned (.bool (decide (xs=ys)))∧Below w.heap.size w w':=by
  by_cases hl:xs.length=ys.length
  · have h1:((xs.length:Int) != ys.length)=false:=by simp [hl]
    have HL:=zy hl
    clear hl
    go_enter Tryz.func35,Tryz.ntmps35
    go_wp2
    go_loopw [5,13] (fun _ i wr=> ∃k:Nat,∃n,k≤xs.length∧i= .int .i64 k∧wr=w.drewN n∧Hid (xs.take k=ys.take k)) (fun _ i _=>xs.length-(intOf i).toNat)
    case atStart=>exact ⟨0,0,Nat.zero_le _,rfl,rfl,zy rfl⟩
    case round=>
      obtain ⟨k,n,hk,rfl,rfl,H⟩:=hrel
      by_cases hlt:k<xs.length
      · obtain ⟨a,o,rfl,_,ha⟩:=hX (by omega)
        obtain ⟨b,o',rfl,_,hb⟩:=hY (by have:=HL.out;omega)
        have hky:k<ys.length:=by have:=HL.out;omega
        have ga:=ha k hlt
        have gb:=hb k hky
        clear ha hb hX hY
        obtain ⟨x,hx⟩: ∃x,x=xs.getD k 0:=⟨_,rfl⟩
        obtain ⟨y,hy⟩: ∃y,y=ys.getD k 0:=⟨_,rfl⟩
        rw [←hx] at ga
        rw [←hy] at gb
        have HX:=zy hx
        have HY:=zy hy
        clear hx hy
        by_cases e:x=y
        · have t1:(x != y)=false:=by simp [e]
          have HT:=zy (zU3 H.out hlt hky (by rw [←HX.out,←HY.out,e]))
          clear e
          go_wp2
          go_quiet (fail)
          go_wp2
          go_roundw
          case rel=>exact ⟨k+1,_,by omega,by go_num,rfl,HT⟩
          case measure=>simp [intOf];omega
        · have t1:(x != y)=true:=by simp [e]
          have HE:=zy e
          clear e
          go_wp2
          go_quiet (fail)
          go_wp2
          go_ret
          refine ⟨zRC ?_,by first|exact below_drewN (Below.refl _ _) _|exact below_drewN (below_drewN (Below.refl _ _) _) _⟩
          symm
          rw [decide_eq_false_iff_not]
          intro h
          exact HE.out (by rw [HX.out,HY.out,h])
      · obtain rfl:k=xs.length:=by omega
        go_wp2
        go_ret
        refine ⟨zRC ?_,below_drewN (Below.refl _ _) _⟩
        symm
        rw [decide_eq_true_iff]
        have:=H.out
        rw [List.take_length,HL.out,List.take_length] at this
        exact this
  · have h1:((xs.length:Int) != ys.length)=true:=by simp;omega
    go_enter Tryz.func35,Tryz.ntmps35
    go_wp2
    go_ret
    refine ⟨zRC ?_,Below.refl _ _⟩
    symm
    rw [decide_eq_false_iff_not]
    exact fun h=>hl (by rw [h])
end
end Go.Proofs.YtmalmijdjhkklaaGreat
