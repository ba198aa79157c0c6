/- The document's rows: Right. -/
import Derived.Test.YtmalmijdjhkklaaGreatW14
import Derived.StillTailTactics
set_option linter.unusedVariables false
set_option linter.unusedSimpArgs false
set_option maxRecDepth 100000
set_option maxHeartbeats 16000000
namespace Go.Proofs.YtmalmijdjhkklaaGreat
open Go.RowKit
theorem zQx (a e m:Int) (w:World) (he0:0≤e) (he:e≤18446744073709551615) (ha0:0≤a) (ha:a≤18446744073709551615) (hm0:0<m) (hm:m≤18446744073709551615):
  Calls Tryz.prog 136 #[.int .u64 a, .int .u64 e, .int .u64 m] w fun r w'=>r= .returned (.int .u64 (a^e.toNat%m))∧ ∃n,w'=w.drewN n:=by
 have h:=zQz (e.toNat+1) e.toNat a m w (by omega) (by omega) ha0 ha hm0 hm
 rw [Int.toNat_of_nonneg he0] at h
 exact h
theorem zQ3 (A:Option Addr) (c:Nat) (es:List Ent) (i:Nat) (w:World) (hl:es.length≤40) (hlc:es.length≤c) (hi:i<es.length) (hR:RdE w w.heap.size A es) (hE: ∀e ∈ es,zAm e):
  Calls Tryz.prog 160 #[.slice A es.length c, .int .i64 i] w (zAd (zAG (es.take i) (es.getD i Ent.none)) w):=by
 obtain ⟨b,o,rfl,hb,hc⟩:=hR (by omega)
 obtain ⟨AF,cF,hAt⟩:=hc i hi
 have hEi:zAm (es.getD i Ent.none):=hE _ (by rw [List.getD_eq_getElem?_getD,List.getElem?_eq_getElem hi];exact List.getElem_mem hi)
 obtain ⟨e,he⟩: ∃e,e=es.getD i Ent.none:=⟨_,rfl⟩
 rw [←he] at hAt hEi ⊢
 obtain ⟨hc0,hc1,hc2,hF⟩:=hAt
 have hp0:=hEi.p0
 have hp1:=hEi.p1
 have hg0:=hEi.g0
 have hg1:=hEi.g1
 have hfl:=hEi.len
 have hBa:=(Below.refl w.heap.size w).alloc (Nat.le_refl _) (.cells #[.int .u64 e.p, .int .u64 e.g, .slice AF e.fs.length cF] 141)
 by_cases h1:e.p%2=1∧3≤e.p∧e.p<9223372036854775808
 ·obtain ⟨o1,o2,o3⟩:=h1
  have u1:(e.p%2 == 0)=false:=by simp;omega
  have u2:decide (e.p<3)=false:=by simp;omega
  have u3:decide (9223372036854775807<e.p)=false:=by simp;omega
  have htl:(es.take i).length=i:=by rw [List.length_take];omega
  by_cases h2:0<i∧e.p≤(es.getD (i-1) Ent.none).p
  ·obtain ⟨k,rfl⟩: ∃k,i=k+1:=⟨i-1,by omega⟩
   have hno:Hid (¬zAG (es.take (k+1)) e):=zy (fun h=>by
    have h3:=h.asc (by rw [htl];omega)
    rw [htl] at h3
    have e1:(es.take (k+1)).getD (k+1-1) Ent.none=es.getD (k+1-1) Ent.none:=by simp [List.getD_eq_getElem?_getD,List.getElem?_take]
    rw [e1] at h3
    have:=h2.2
    omega)
   obtain ⟨A',c',hAt'⟩:=hc k (by omega)
   have hq0:=hAt'.c0
   have h2':=h2.2
   simp only [Nat.add_sub_cancel] at h2'
   obtain ⟨pq,hpq⟩: ∃pq,pq=(es.getD k Ent.none).p:=⟨_,rfl⟩
   rw [←hpq] at hq0 h2'
   have v1:decide (e.p≤pq)=true:=by simpa using h2'
   have v2:decide ((0:Int)<((k+1:Nat):Int))=true:=by simp <;> omega
   have ek:((k+1:Nat):Int)-1=k:=by omega
   have hkl:k<es.length:=by omega
   clear h2 h2' he hc hR hE hF hAt' hpq htl
   go_enter Tryz.func160,Tryz.ntmps160
   go_wp2
   have hq1:=zDs hBa hb hq0
   go_quiet (fail)
   go_wp2
   go_ret
   exact zAd.no hno.out (below_drewN hBa _)
  ·
   have hasc:Hid (0<(es.take i).length→((es.take i).getD ((es.take i).length-1) Ent.none).p<e.p):=zy (fun h3=>by
    rw [htl] at h3 ⊢
    have e1:(es.take i).getD (i-1) Ent.none=es.getD (i-1) Ent.none:=by simp [List.getD_eq_getElem?_getD,List.getElem?_take,show i-1<i by omega]
    rw [e1]
    exact Int.not_le.1 (fun h=>h2 ⟨h3,h⟩))
   have hprev:(i=0∧decide ((0:Int)<(i:Int))=false)∨ ∃k pq,i=k+1∧w.cell? ⟨b,o+k*3,none⟩=some (.int .u64 pq)∧decide (e.p≤pq)=false:=by
    by_cases h0:i=0
    ·exact .inl ⟨h0,by simp;omega⟩
    ·obtain ⟨A',c',hAt'⟩:=hc (i-1) (by omega)
     exact .inr ⟨i-1,_,by omega,hAt'.c0,decide_eq_false_iff_not.2 (fun h=>h2 ⟨by omega,h⟩)⟩
   have hT0:RdE w w.heap.size (some ⟨b,o,none⟩) (es.take i):=hR.take i
   have hEt: ∀x ∈ es.take i,zAm x:=fun x hx=>hE x (List.mem_of_mem_take hx)
   have HLK:Hid ((es.take i).length=i):=zy htl
   have s1:(i:Int)≤c:=by omega
   have s2:i≤c:=by omega
   obtain ⟨ahead,hah⟩: ∃ahead,ahead=es.take i:=⟨_,rfl⟩
   rw [←hah] at hasc hT0 hEt HLK ⊢
   have hi40:i≤40:=by omega
   clear h2 he hc hR hE htl hah
   go_enter Tryz.func160,Tryz.ntmps160
   go_upto_region 2 with fail
   have hs0:w.heap.size+1≤(w.alloc (.cells #[.int .u64 e.p, .int .u64 e.g, .slice AF e.fs.length cF] 141)).heap.size:=by simp
   have k0:(w.alloc (.cells #[.int .u64 e.p, .int .u64 e.g, .slice AF e.fs.length cF] 141)).cell? ⟨w.heap.size,0,none⟩=some (.int .u64 e.p):=World.cell?_alloc_at _ _ _ _ rfl
   have k1:(w.alloc (.cells #[.int .u64 e.p, .int .u64 e.g, .slice AF e.fs.length cF] 141)).cell? ⟨w.heap.size,1,none⟩=some (.int .u64 e.g):=World.cell?_alloc_at _ _ _ _ rfl
   have k2:(w.alloc (.cells #[.int .u64 e.p, .int .u64 e.g, .slice AF e.fs.length cF] 141)).cell? ⟨w.heap.size,2,none⟩=some (.slice AF e.fs.length cF):=World.cell?_alloc_at _ _ _ _ rfl
   generalize w.alloc (.cells #[.int .u64 e.p, .int .u64 e.g, .slice AF e.fs.length cF] 141)=w1 at *
   go_cut [43] (fun v wx=>v= .bool false∧Below w1.heap.size w1 wx)
   case first=>
    rcases hprev with ⟨h0,t5⟩|⟨k,pq,hik,hq,t5⟩
    ·go_quiet (fail)
     go_wp2_with fail
     go_meet
     exact ⟨rfl,below_drewN (Below.refl _ _) _⟩
    ·subst hik
     have hq1:=zDs hBa hb hq
     have t6:decide ((0:Int)<((k+1:Nat):Int))=true:=by simp <;> omega
     have ek:((k+1:Nat):Int)-1=k:=by omega
     have hkl:k<es.length:=by omega
     clear hq
     go_quiet (fail)
     go_wp2_with fail
     go_meet
     exact ⟨rfl,below_drewN (Below.refl _ _) _⟩
   case rest=>
    obtain ⟨rfl,hBc⟩:=hcut
    obtain ⟨wq,rfl⟩: ∃wq:World,wq=wc:=⟨_,rfl⟩
    have m0:=zDs hBc (by omega) k0
    have m1:=zDs hBc (by omega) k1
    have m2:=zDs hBc (by omega) k2
    have hBw:Below w.heap.size w wq:=hBa.trans (hBc.mono (by omega))
    have hsz:w.heap.size+1≤wq.heap.size:=by have:=hBc.size;omega
    have hTc:=(hT0.below hBw).mono (show w.heap.size≤wq.heap.size by omega)
    have hFc:=(hF.below hBw).mono (show w.heap.size≤wq.heap.size by omega)
    clear k0 k1 k2 hBc hBa hprev hT0 hF hs0
    by_cases h4:1≤e.fs.length∧e.fs.length≤16
    ·obtain ⟨f1,f16⟩:=h4
     obtain ⟨bF,oF,rfl,hbF,hcF⟩:=hFc (by omega)
     have hq0:=(hcF 0 (by omega)).1
     rw [Nat.zero_mul,Nat.add_zero] at hq0
     obtain ⟨x0,hx0⟩: ∃x0,x0=(e.fs.getD 0 (0,0)).1:=⟨_,rfl⟩
     rw [←hx0] at hq0
     have HX0:=zy hx0
     have v1:decide ((e.fs.length:Int)<1)=false:=by simp;omega
     have v2:decide ((16:Int)<(e.fs.length:Int))=false:=by simp;omega
     clear hx0
     by_cases hx2:x0=2
     ·have v3:(x0 != 2)=false:=by simp [hx2]
      have HX2:=zy hx2
      clear hx2
      go_wp2
      clear hq0
      go_loopw [6] (fun K wr=> ∃k:Nat,K= .int .i64 k∧1≤k∧k≤e.fs.length∧Hid (∀j,j+1<k→(e.fs.getD j (0,0)).1<(e.fs.getD (j+1) (0,0)).1∧ahead.any (fun x=>x.p == (e.fs.getD (j+1) (0,0)).1)=true)∧Below wq.heap.size wq wr) (fun K _=>e.fs.length-(intOf K).toNat)
      case atStart=>exact ⟨1,rfl,by omega,by omega,zy (fun j hj=>by omega),Below.refl _ _⟩
      case round=>
       obtain ⟨k,rfl,k1,kl,hok,hB⟩:=hrel
       have n0:=zDs hB (by omega) m0
       have n1:=zDs hB (by omega) m1
       have n2:=zDs hB (by omega) m2
       have hsr:=hB.size
       by_cases hlt:k<e.fs.length
       ·have d0:=zDs hB hbF (hcF k hlt).1
        have d1:=zDs hB hbF (hcF (k-1) (by omega)).1
        obtain ⟨x,hx⟩: ∃x,x=(e.fs.getD k (0,0)).1:=⟨_,rfl⟩
        obtain ⟨y,hy⟩: ∃y,y=(e.fs.getD (k-1) (0,0)).1:=⟨_,rfl⟩
        rw [←hx] at d0
        rw [←hy] at d1
        obtain ⟨q0,q1,_,_⟩:=hEi.q (e.fs.getD k (0,0)) (by rw [List.getD_eq_getElem?_getD,List.getElem?_eq_getElem hlt];exact List.getElem_mem hlt)
        rw [←hx] at q0 q1
        have HX:=zy hx
        have HY:=zy hy
        obtain ⟨bad,hbad⟩: ∃bad:Bool,bad=(decide (x≤y) || !(ahead.any (fun z=>z.p == x))):=⟨_,rfl⟩
        have ek:((k:Int)-1)=((k-1:Nat):Int):=by omega
        have hkl:k-1<e.fs.length:=by omega
        have hRr:=(hTc.below hB).mono hsr
        clear hx hy
        go_upto_region 9 with fail
        go_cut [95] (fun v wx=>v= .bool bad∧Below wr.heap.size wr wx)
        case first=>
         clear hcF
         by_cases hxy:x≤y
         ·have t6:decide (x≤y)=true:=by simpa using hxy
          have HB:Hid (bad=true):=zy (by rw [hbad,t6];simp)
          clear hbad hxy
          go_quiet (fail)
          go_wp2_with fail
          go_meet
          exact ⟨by rw [HB.out],below_drewN (Below.refl _ _) _⟩
         ·have t6:decide (x≤y)=false:=by simpa using hxy
          have HB:Hid (bad= !(ahead.any (fun z=>z.p == x))):=zy (by rw [hbad,t6];simp)
          clear hbad hxy
          obtain ⟨an,han⟩: ∃an,an=ahead.any (fun z=>z.p == x):=⟨_,rfl⟩
          have hCl:Hid (∀W,Below wr.heap.size wr W→Calls Tryz.prog 194 #[.slice (some ⟨b,o,none⟩) i c, .int .u64 x] W fun e w'=>e= .returned (.bool an)∧Below W.heap.size W w'):=zy (fun W hW=>by
           have h1:=zQ1 (some ⟨b,o,none⟩) c x ahead W (by rw [HLK.out];omega) ((hRr.below hW).mono hW.size)
           rw [HLK.out,←han] at h1
           exact h1)
          rw [←han] at HB
          clear han ek
          have s1:IntKind.i64.wrap ((k:Int)-1)=(k:Int)-1:=IntWalk.i64_in _ (by omega)
          have s2:0≤(k:Int)-1:=by omega
          have s3:((k:Int)-1).toNat=k-1:=by omega
          have s4:(k:Int)-1<e.fs.length:=by omega
          have s5:1≤(k:Int):=by omega
          have s6:1≤k:=by omega
          have s7:(i:Int)≤c:=by omega
          have s8:i≤c:=by omega
          go_still_tail 24,(by kernel_rfl)
          change wpList _ _ _ _ _ wr.drew
          have hBd:Below wr.heap.size wr wr.drew:=below_drewN (Below.refl _ _) 1
          have hCd:=hCl.out _ hBd
          generalize wr.drew=wd at *
          go_wp2_with fail
          refine hCd.mono ?_
          rintro e w' ⟨rfl,hBc⟩
          go_wp2_with fail
          go_meet
          exact ⟨by rw [HB.out],hBd.trans (hBc.mono hBd.size)⟩
        case rest=>
         obtain ⟨rfl,hBc⟩:=hcut
         have HBAD:=zy hbad
         have hB2:Below wq.heap.size wq wc:=hB.trans (hBc.mono hsr)
         clear hbad hBc hRr n0 n1 n2 d0 d1 hcF hTc hFc m0 m1 m2 hB
         cases bad with
         | true=>
          have hno:Hid (¬zAG ahead e):=zy (fun h=>by
           have hb:=HBAD.out
           have h1:=h.whole.rise (k-1) (by omega)
           rw [show k-1+1=k by omega,←HX.out,←HY.out] at h1
           have hd:decide (x≤y)=false:=decide_eq_false_iff_not.2 (by omega)
           rw [h1.2,hd] at hb
           simp at hb)
          go_wp2
          go_ret
          exact zAd.no hno.out (hBw.trans (hB2.mono (by omega)))
         | false=>
          have hok2:Hid (∀j,j+1<k+1→(e.fs.getD j (0,0)).1<(e.fs.getD (j+1) (0,0)).1∧ahead.any (fun x=>x.p == (e.fs.getD (j+1) (0,0)).1)=true):=zy (fun j hj=>by
           by_cases hjk:j+1=k
           ·obtain rfl:j=k-1:=by omega
            rw [hjk,←HX.out,←HY.out]
            have hb:=Bool.or_eq_false_iff.1 HBAD.out.symm
            refine ⟨Int.not_le.1 (decide_eq_false_iff_not.1 hb.1),?_⟩
            have:=hb.2
            cases h:ahead.any (fun z=>z.p == x) with
            | true=>rfl
            | false=>rw [h] at this;simp at this
           ·exact hok.out j (by omega))
          go_wp2
          go_roundw
          case rel=>exact ⟨k+1,by go_num,by omega,by omega,hok2,hB2⟩
          case measure=>simp [intOf];omega
       ·obtain rfl:k=e.fs.length:=by omega
        have hFr:=(hFc.below hB).mono hsr
        clear hcF hTc hFc
        go_wp2_with fail
        refine (zQ2 (some ⟨bF,oF,none⟩) cF (e.p-1) e.fs _ (by omega) (by omega) (by omega) hFr hEi.q).mono ?_
        rintro r w2 ⟨hB2,⟨hP,rfl⟩|⟨hP,rfl⟩⟩
        ·have hp0:=zDs hB2 (by omega) n0
         have hp1:=zDs hB2 (by omega) n1
         have hp2:=zDs hB2 (by omega) n2
         have hF2:=(hFr.below hB2).mono hB2.size
         have hBv:Below w.heap.size w w2:=hBw.trans ((hB.trans (hB2.mono hsr)).mono (by omega))
         have HP:=zy hP
         have hsv:w.heap.size+1≤w2.heap.size:=by have:=hB2.size;omega
         obtain ⟨n,hn⟩: ∃n,n=zPg e.fs:=⟨_,rfl⟩
         rw [←hn]
         have HN:=zy hn
         clear hn hP hB2 hB n0 n1 n2 m0 m1 m2 hFr
         by_cases h5:n=e.p-1∧2≤e.g∧e.g<e.p
         ·obtain ⟨a1,a2,a3⟩:=h5
          have u1:(n != e.p-1)=false:=by simp [a1]
          have u2:decide (e.g<2)=false:=by simp;omega
          have u3:decide (e.p≤e.g)=false:=by simp;omega
          have H1:=zy a1
          clear a1
          obtain ⟨v,hv⟩: ∃v,v=e.g^(e.p-1).toNat%e.p:=⟨_,rfl⟩
          have hPw:Hid (∀W:World,Calls Tryz.prog 136 #[.int .u64 e.g, .int .u64 (e.p-1), .int .u64 e.p] W fun r w'=>r= .returned (.int .u64 v)∧ ∃n,w'=W.drewN n):=zy (fun W=>by
           rw [hv];exact zQx e.g (e.p-1) e.p W (by omega) (by omega) (by omega) (by omega) (by omega) (by omega))
          have HV:=zy hv
          clear hv
          by_cases hv1:v=1
          ·have u4:(v != 1)=false:=by simp [hv1]
           have HV1:=zy hv1
           clear hv1
           go_wp2_with fail
           refine (hPw.out _).mono ?_
           rintro r wz ⟨rfl,n1,rfl⟩
           go_wp2
           clear hPw
           go_loopw [140] (fun I wr=> ∃k:Nat,I= .int .i64 k∧k≤e.fs.length∧Hid (∀x ∈ e.fs.take k,e.g^((e.p-1)/x.1).toNat%e.p≠1)∧Below w2.heap.size w2 wr) (fun I _=>e.fs.length-(intOf I).toNat)
           case atStart=>exact ⟨0,rfl,by omega,zy (by simp),below_drewN (Below.refl _ _) _⟩
           case round=>
            obtain ⟨k,rfl,hk,hno,hBr⟩:=hrel
            have hsr:=hBr.size
            have r0:=zDs hBr (by omega) hp0
            have r1:=zDs hBr (by omega) hp1
            by_cases hlt:k<e.fs.length
            ·obtain ⟨bG,oG,hbo,hbG,hcG⟩:=hF2 (by omega)
             obtain ⟨rfl,rfl⟩:bF=bG∧oF=oG:=by simpa using hbo
             have d0:=zDs hBr hbG (hcG k hlt).1
             have d1:=zDs hBr hbG (hcG k hlt).2
             obtain ⟨x,hx⟩: ∃x,x=e.fs.getD k (0,0):=⟨_,rfl⟩
             rw [←hx] at d0 d1
             have hx2:2≤x.1:=by rw [hx];exact (HP.out.each k hlt).1
             obtain ⟨q0,q1,_,_⟩:=hEi.q x (by rw [hx,List.getD_eq_getElem?_getD,List.getElem?_eq_getElem hlt];exact List.getElem_mem hlt)
             have hxm:Hid (x ∈ e.fs):=zy (by rw [hx,List.getD_eq_getElem?_getD,List.getElem?_eq_getElem hlt];exact List.getElem_mem hlt)
             have htk:Hid (e.fs.take (k+1)=e.fs.take k ++ [x]):=zy (by
              rw [List.take_succ_eq_append_getElem hlt,hx,List.getD_eq_getElem?_getD,List.getElem?_eq_getElem hlt];rfl)
             have hd0:0≤(e.p-1)/x.1:=Int.ediv_nonneg (by omega) (by omega)
             have hd1:(e.p-1)/x.1≤e.p-1:=Int.ediv_le_self _ (by omega)
             have hz:(x.1 == 0)=false:=beq_eq_false_iff_ne.2 (by omega)
             obtain ⟨y,hy⟩: ∃y,y=e.g^((e.p-1)/x.1).toNat%e.p:=⟨_,rfl⟩
             have hPy:Hid (∀W:World,Calls Tryz.prog 136 #[.int .u64 e.g, .int .u64 ((e.p-1)/x.1), .int .u64 e.p] W fun r w'=>r= .returned (.int .u64 y)∧ ∃n,w'=W.drewN n):=zy (fun W=>by
              rw [hy];exact zQx e.g ((e.p-1)/x.1) e.p W (by omega) (by omega) (by omega) (by omega) (by omega) (by omega))
             have HY:=zy hy
             clear hx hy hcG hF2 hbo
             go_upto_region 17 with fail
             have hBx:=hBr.alloc hsr (.cells #[.int .u64 x.1, .int .i64 x.2] 152)
             have l0:(wr.alloc (.cells #[.int .u64 x.1, .int .i64 x.2] 152)).cell? ⟨wr.heap.size,0,none⟩=some (.int .u64 x.1):=World.cell?_alloc_at _ _ _ _ rfl
             have r0':=zDs hBx (by omega) hp0
             have r1':=zDs hBx (by omega) hp1
             generalize wr.alloc (.cells #[.int .u64 x.1, .int .i64 x.2] 152)=wx at *
             clear r0 r1 d0 d1 hBr
             have hwq:Hid (w2.heap.size≤wr.heap.size):=zy hsr
             generalize wr.heap.size=Bx at *
             have e1:IntKind.u64.wrap (e.p-1)=e.p-1:=IntWalk.u64_in _ (by omega)
             have e2:0≤e.p-1:=by omega
             go_quiet ((go_at_call 136;exact Calls.quiet_of (hPy.out _)))
             by_cases hy1:y=1
             ·have u5:(y == 1)=true:=by simp [hy1]
              have hnR:Hid (¬zAG ahead e):=zy (fun h=>h.full.no x hxm.out (by rw [←HY.out];exact hy1))
              clear hy1 e1
              go_wp2
              go_ret
              exact zAd.no hnR.out (hBv.trans ((below_drewN hBx _).mono (by omega)))
             ·have u5:(y == 1)=false:=by simp [hy1]
              have hno2:Hid (∀x ∈ e.fs.take (k+1),e.g^((e.p-1)/x.1).toNat%e.p≠1):=zy (fun z hz=>by
               rw [htk.out,List.mem_append,List.mem_singleton] at hz
               rcases hz with hz|rfl
               ·exact hno.out z hz
               ·rw [←HY.out];exact hy1)
              clear hy1 e1
              go_wp2
              go_roundw
              case rel=>exact ⟨k+1,by go_num,by omega,hno2,below_drewN hBx _⟩
              case measure=>simp [intOf];omega
            ·obtain rfl:k=e.fs.length:=by omega
             have hz:=hno.out
             rw [List.take_length] at hz
             have HY:Hid (zAG ahead e):=zy ⟨o1,o2,o3,a2,a3,hasc.out,
              ⟨f1,f16,by rw [←HX0.out];exact HX2.out,fun j hj=>⟨(HP.out.each j hj).2.1,(HP.out.each j hj).2.2⟩,fun j hj=>hok.out j hj,by rw [←HN.out];exact H1.out⟩,
              ⟨by rw [←HV.out];exact HV1.out,hz⟩⟩
             clear hz hno hF2
             go_wp2
             go_ret
             exact zAd.iff (by simp [HY.out]) (hBv.trans (hBr.mono (by omega)))
          ·have u4:(v != 1)=true:=by simp [hv1]
           have hno:Hid (¬zAG ahead e):=zy (fun h=>hv1 (by rw [HV.out];exact h.full.one))
           clear hv1
           go_wp2_with fail
           refine (hPw.out _).mono ?_
           rintro r wz ⟨rfl,n1,rfl⟩
           go_wp2
           go_ret
           exact zAd.no hno.out (below_drewN hBv _)
         ·have hno:Hid (¬zAG ahead e):=zy (fun h=>h5 ⟨by rw [HN.out];exact h.whole.prod,h.g2,h.gp⟩)
          have t5:(n != e.p-1)=true∨((n != e.p-1)=false∧decide (e.g<2)=true)∨((n != e.p-1)=false∧decide (e.g<2)=false∧decide (e.p≤e.g)=true):=by
           by_cases h1:n=e.p-1
           ·by_cases h2:e.g<2
            ·exact .inr (.inl ⟨by simp [h1],by simpa using h2⟩)
            ·exact .inr (.inr ⟨by simp [h1],by simpa using h2,by simp;omega⟩)
           ·exact .inl (by simp [h1])
          clear h5
          rcases t5 with t5|⟨t5,t6⟩|⟨t5,t6,t7⟩
          all_goals
           go_wp2
           go_ret
           exact zAd.no hno.out hBv
        ·have hno:Hid (¬zAG ahead e):=zy (fun h=>hP ⟨fun k hk=>⟨h.whole.two_le k hk,h.whole.each k hk⟩,by rw [h.whole.prod];omega⟩)
         have hBv:Below w.heap.size w w2:=hBw.trans ((hB.trans (hB2.mono hsr)).mono (by omega))
         clear hP
         go_wp2
         go_ret
         exact zAd.no hno.out hBv
     ·have v3:(x0 != 2)=true:=by simp [hx2]
      have hno:Hid (¬zAG ahead e):=zy (fun h=>hx2 (by rw [HX0.out];exact h.whole.two))
      clear hx2 hcF hFc
      go_wp2
      go_ret
      exact zAd.no hno.out hBw
    ·have hno:Hid (¬zAG ahead e):=zy (fun h=>h4 ⟨h.whole.len1,h.whole.len2⟩)
     have t4:decide ((e.fs.length:Int)<1)=true∨(decide ((e.fs.length:Int)<1)=false∧decide ((16:Int)<(e.fs.length:Int))=true):=by
      by_cases h:e.fs.length<1
      ·exact .inl (by simp;omega)
      ·exact .inr ⟨by simp;omega,by simp;omega⟩
     clear h4 hFc
     rcases t4 with t4|⟨t4,t5⟩
     all_goals
      go_wp2
      go_ret
      exact zAd.no hno.out hBw
 ·have hno:Hid (¬zAG (es.take i) e):=zy (fun h=>h1 ⟨h.odd,h.p3,h.pm⟩)
  have t:(e.p%2 == 0)=true∨((e.p%2 == 0)=false∧decide (e.p<3)=true)∨((e.p%2 == 0)=false∧decide (e.p<3)=false∧decide (9223372036854775807<e.p)=true):=by
   by_cases a:e.p%2=0
   ·exact .inl (by simpa using a)
   ·by_cases b:e.p<3
    ·exact .inr (.inl ⟨by simpa using a,by simpa using b⟩)
    ·exact .inr (.inr ⟨by simpa using a,by simpa using b,by simp;omega⟩)
  clear h1 he hc hR hE hF
  rcases t with t|⟨t,t2⟩|⟨t,t2,t3⟩
  all_goals
   go_enter Tryz.func160,Tryz.ntmps160
   go_wp2
   go_quiet (fail)
   go_wp2
   go_ret
   exact zAd.no hno.out (below_drewN hBa _)
end Go.Proofs.YtmalmijdjhkklaaGreat