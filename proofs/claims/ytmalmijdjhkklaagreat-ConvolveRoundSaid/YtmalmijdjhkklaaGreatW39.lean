/- The document's rows and fields: Check; Of. -/
import Derived.Test.YtmalmijdjhkklaaGreatRef04R
import Derived.Test.YtmalmijdjhkklaaGreatW10
import Derived.Test.YtmalmijdjhkklaaGreatW20
import Derived.Test.YtmalmijdjhkklaaGreatW25
set_option linter.unusedVariables false
set_option linter.unusedSimpArgs false
set_option maxRecDepth 100000
set_option maxHeartbeats 16000000
namespace Go.Proofs.YtmalmijdjhkklaaGreat
open Go.RowKit
section
open Alg
theorem zQ0 (A:Option Addr) (c:Nat) (es:List Ent) (w:World) (hl:es.length≤40) (hlc:es.length≤c) (hR:RdE w w.heap.size A es) (hE: ∀e ∈ es,zAm e):
  Calls Tryz.prog 97 #[.slice A es.length c] w (zAh es w):=by
 by_cases h32:32<es.length
 ·have t1:decide ((32:Int)<es.length)=true:=by simp;omega
  have HC:Hid (zAi es 0 13):=zy (.inl ⟨h32,rfl,rfl⟩)
  clear h32
  go_enter Tryz.func97,Tryz.ntmps97
  go_wp2
  go_ret2
  exact ⟨0,13,rfl,HC.out,Below.refl _ _⟩
 ·have t1:decide ((32:Int)<es.length)=false:=by simp;omega
  have HE:=zy hE
  clear hE
  go_enter Tryz.func97,Tryz.ntmps97
  go_wp2
  go_loopw [10] (fun I wr=> ∃k:Nat,I= .int .i64 k∧k≤es.length∧Hid (∀j,j<k→zAG (es.take j) (es.getD j Ent.none))∧Below w.heap.size w wr) (fun I _=>es.length-(intOf I).toNat)
  case atStart=>exact ⟨0,rfl,by omega,zy (fun j hj=>by omega),Below.refl _ _⟩
  case round=>
   obtain ⟨k,rfl,hk,hok,hB⟩:=hrel
   by_cases hlt:k<es.length
   ·have hRr:=(hR.below hB).mono hB.size
    have hCl:=zy (zQ3 A c es k wr hl hlc hlt hRr HE.out)
    clear hRr
    go_wp2_with fail
    refine hCl.out.mono ?_
    rintro r w1 ⟨b,rfl,hb,hB1⟩
    have hB2:Below w.heap.size w w1:=hB.trans (hB1.mono hB.size)
    have HB:=zy hb
    clear hb hB1 hCl
    cases b with
    | true=>
     have hok2:Hid (∀j,j<k+1→zAG (es.take j) (es.getD j Ent.none)):=zy (fun j hj=>by
      by_cases e:j=k
      ·subst e;exact HB.out.1 rfl
      ·exact hok.out j (by omega))
     go_wp2
     go_roundw
     case rel=>exact ⟨k+1,by go_num,by omega,hok2,hB2⟩
     case measure=>simp [intOf];omega
    | false=>
     have hno:Hid (zAi es k 3):=zy (.inr (.inl ⟨by omega,k,hlt,rfl,rfl,hok.out,fun h=>by have:=HB.out.2 h;cases this⟩))
     go_wp2
     go_ret2
     exact ⟨k,3,rfl,hno.out,hB2⟩
   ·obtain rfl:k=es.length:=by omega
    have hy:Hid (zAi es 0 0):=zy (.inr (.inr ⟨by omega,rfl,rfl,hok.out⟩))
    go_wp2
    go_ret2
    exact ⟨0,0,rfl,hy.out,hB⟩
def OfR (kind kk p:Int) (es:List Ent) (p' g':Int):Prop:=
 (kind=0→(OddP p∧p'=p∧ ∃g:Nat,IsGen p.toNat g∧g'=g)∨(¬OddP p∧p'=0∧g'=0))∧
 (kind=1→p'=(zKb kk).1∧g'=(zKb kk).2)∧
 (kind≠0→kind≠1→(es.length≤40∧zAb es∧p'=p∧zAp es p g')∨((40<es.length∨ ¬zAb es∨ ∀e ∈ es,e.p≠p)∧p'=0∧g'=0))
def OfP (kind kk p:Int) (es:List Ent) (w:World) (r:Ending) (w':World):Prop:=
 ∃p' g' er,r= .returned (.tuple #[.int .u64 p', .int .u64 g', .int .i64 er])∧OfR kind kk p es p' g'∧Below w.heap.size w w'
theorem OfR.zero {kk p p' g':Int} {es:List Ent} (h:(OddP p∧p'=p∧ ∃g:Nat,IsGen p.toNat g∧g'=g)∨(¬OddP p∧p'=0∧g'=0)):OfR 0 kk p es p' g':=⟨fun _=>h,fun h=>by omega,fun h=>absurd rfl h⟩
theorem OfR.one {kk p p' g':Int} {es:List Ent} (h:p'=(zKb kk).1∧g'=(zKb kk).2):OfR 1 kk p es p' g':=⟨fun h=>by omega,fun _=>h,fun _ h=>absurd rfl h⟩
theorem OfR.list {kind kk p p' g':Int} {es:List Ent} (h0:kind≠0) (h1:kind≠1) (h:(es.length≤40∧zAb es∧p'=p∧zAp es p g')∨((40<es.length∨ ¬zAb es∨ ∀e ∈ es,e.p≠p)∧p'=0∧g'=0)):OfR kind kk p es p' g':=
 ⟨fun h=>absurd h h0,fun h=>absurd h h1,fun _ _=>h⟩
theorem zJI {p:Nat} (hp:Prime p) (h3:3≤p): ∃g,IsGen p g:=by
 obtain ⟨r,r2,rp,hr⟩:=gen_bound hp h3
 clear rp
 induction r using Nat.strongRecOn with
 | _ r ih=>
  by_cases h: ∃h,2≤h∧h<r∧GenOk p h
  ·obtain ⟨k,a,b,c⟩:=h
   exact ih k b a c
  ·exact ⟨r,r2,hr,fun k a b c=>h ⟨k,a,b,c⟩⟩
theorem zRM {p g:Nat} (h3:3≤p) (hp6:p≤65536) (hp:Prime p) (hg:IsGen p g) (w:World):
  Calls Tryz.prog 96 #[.int .u64 p] w fun e w'=>e= .returned (.int .u64 g)∧w'=w:=
 (zRL p w h3 hp6 hp).mono fun _ _ ⟨_,he,h,hw⟩=>⟨by rw [he,h.unique hg],hw.symm⟩
theorem zMU (A:Option Addr) (c:Nat) (kk p:Int) (es:List Ent) (w:World) (h0:0≤p) (h1:p≤18446744073709551615):
  Calls Tryz.prog 49 #[.agg #[.int .i64 0, .int .i64 kk, .int .u64 p, .slice A es.length c]] w (OfP 0 kk p es w):=by
 have hB:=(Below.refl w.heap.size w).alloc (Nat.le_refl _) (.cells #[.int .i64 0, .int .i64 kk, .int .u64 p, .slice A es.length c] 25)
 by_cases ho:OddP p
 ·have HO:Hid ((decide (2<p) && decide (p≤65536) && isP p.toNat)=true):=zy (by
   simp only [Bool.and_eq_true,decide_eq_true_eq,zJL];exact ⟨⟨ho.1,ho.2.1⟩,ho.2.2⟩)
  obtain ⟨n,rfl⟩:=Int.eq_ofNat_of_zero_le h0
  have hn3:3≤n:=by have:=ho.1;omega
  have hn6:n≤65536:=by have:=ho.2.1;omega
  have hpn:Prime n:=by simpa using ho.2.2
  obtain ⟨g,hg⟩:=zJI hpn hn3
  have hGn:=fun w=>zRM hn3 hn6 hpn hg w
  have HR:Hid (OfR 0 kk n es n g):=zy (.zero (.inl ⟨ho,rfl,g,by simpa using hg,rfl⟩))
  clear ho hg hpn
  go_enter Tryz.func49,Tryz.ntmps49
  go_wp2_with fail
  refine (zSa _ _ (by omega) (by omega)).mono ?_
  rintro r w1 ⟨rfl,rfl⟩
  rw [HO.out]
  go_wp2_with fail
  go_quiet ((go_at_call 96;exact Calls.quiet_of_same (hGn _)))
  go_wp2
  go_ret3
  exact ⟨n,g,0,rfl,HR.out,below_drewN hB _⟩
 ·have HO:Hid ((decide (2<p) && decide (p≤65536) && isP p.toNat)=false):=zy (by
   rw [Bool.eq_false_iff];intro h;simp only [Bool.and_eq_true,decide_eq_true_eq,zJL] at h;exact ho ⟨h.1.1,h.1.2,h.2⟩)
  have HR:Hid (OfR 0 kk p es 0 0):=zy (.zero (.inr ⟨ho,rfl,rfl⟩))
  clear ho
  go_enter Tryz.func49,Tryz.ntmps49
  go_wp2_with fail
  refine (zSa _ _ (by omega) (by omega)).mono ?_
  rintro r w1 ⟨rfl,rfl⟩
  rw [HO.out]
  go_wp2
  go_ret3
  exact ⟨0,0,1,rfl,HR.out,hB⟩
theorem zMS (A:Option Addr) (c:Nat) (kk p:Int) (es:List Ent) (w:World) (h0:0≤p) (h1:p≤18446744073709551615):
  Calls Tryz.prog 49 #[.agg #[.int .i64 1, .int .i64 kk, .int .u64 p, .slice A es.length c]] w (OfP 1 kk p es w):=by
 have hB:=(Below.refl w.heap.size w).alloc (Nat.le_refl _) (.cells #[.int .i64 1, .int .i64 kk, .int .u64 p, .slice A es.length c] 25)
 by_cases hk:0≤kk∧kk≤5
 ·have HR:Hid (OfR 1 kk p es (zKb kk).1 (zKb kk).2):=zy (.one ⟨rfl,rfl⟩)
  rcases zKc hk with rfl|rfl|rfl|rfl|rfl|rfl
  all_goals
   go_enter Tryz.func49,Tryz.ntmps49
   go_wp2
   go_quiet (fail)
   go_wp2
   go_ret3
   exact ⟨_,_,_,rfl,HR.out,below_drewN ((hB.alloc (by simp only [World.size_alloc];omega) _).alloc (by simp only [World.size_alloc];omega) _) _⟩
 ·have hz:zKb kk=(0,0):=by
   unfold zKb
   rw [if_neg (by omega),if_neg (by omega),if_neg (by omega),if_neg (by omega),if_neg (by omega),if_neg (by omega)]
  have HR:Hid (OfR 1 kk p es 0 0):=zy (.one (by rw [hz];exact ⟨rfl,rfl⟩))
  have t:decide (kk<0)=true∨(decide (kk<0)=false∧decide (5<kk)=true):=by
   by_cases a:kk<0
   ·exact .inl (by simpa using a)
   ·exact .inr ⟨by simpa using a,by simp;omega⟩
  clear hk hz
  rcases t with t|⟨t,t'⟩
  all_goals
   go_enter Tryz.func49,Tryz.ntmps49
   go_wp2
   go_ret3
   exact ⟨0,0,1,rfl,HR.out,hB⟩
theorem zMR (A:Option Addr) (c:Nat) (kind kk p:Int) (es:List Ent) (w:World) (k0:kind≠0) (k1:kind≠1) (h0:0≤p) (h1:p≤18446744073709551615)
  (hlm:es.length≤140737488351232) (hlc:es.length≤c) (hR:RdE w w.heap.size A es) (hE: ∀e ∈ es,zAm e):
  Calls Tryz.prog 49 #[.agg #[.int .i64 kind, .int .i64 kk, .int .u64 p, .slice A es.length c]] w (OfP kind kk p es w):=by
 have t0:(kind == 0)=false:=by simp [k0]
 have t1:(kind == 1)=false:=by simp [k1]
 have K0:=zy k0
 have K1:=zy k1
 have HE:=zy hE
 have hB:=(Below.refl w.heap.size w).alloc (Nat.le_refl _) (.cells #[.int .i64 kind, .int .i64 kk, .int .u64 p, .slice A es.length c] 25)
 clear k0 k1 hE
 by_cases hl:es.length≤40
 ·have t2:decide ((40:Int)<es.length)=false:=by simp;omega
  go_enter Tryz.func49,Tryz.ntmps49
  go_wp2
  have b2:(w.alloc (.cells #[.int .i64 kind, .int .i64 kk, .int .u64 p, .slice A es.length c] 25)).cell? ⟨w.heap.size,2,none⟩=some (.int .u64 p):=World.cell?_alloc_at _ _ _ _ rfl
  have b3:(w.alloc (.cells #[.int .i64 kind, .int .i64 kk, .int .u64 p, .slice A es.length c] 25)).cell? ⟨w.heap.size,3,none⟩=some (.slice A es.length c):=World.cell?_alloc_at _ _ _ _ rfl
  have hs1:w.heap.size+1≤(w.alloc (.cells #[.int .i64 kind, .int .i64 kk, .int .u64 p, .slice A es.length c] 25)).heap.size:=by simp
  generalize w.alloc (.cells #[.int .i64 kind, .int .i64 kk, .int .u64 p, .slice A es.length c] 25)=w1 at *
  have hR1:=(hR.below hB).mono (show w.heap.size≤w1.heap.size by omega)
  clear hR
  go_loopw [53] (fun I wr=> ∃k:Nat,I= .int .i64 k∧k≤es.length∧Below w1.heap.size w1 wr) (fun I _=>es.length-(intOf I).toNat)
  case atStart=>exact ⟨0,rfl,by omega,Below.refl _ _⟩
  case round=>
   obtain ⟨k,rfl,hk,hBr⟩:=hrel
   have hws:=hBr.size
   by_cases hlt:k<es.length
   ·obtain ⟨b,o,rfl,hb,hc⟩:=hR1 (by omega)
    obtain ⟨A',c',hEl⟩:=hc k hlt
    have d0:wr.cell? ⟨b,o+k*3,none⟩=some (.int .u64 (es.getD k Ent.none).p):=zDs hBr hb hEl.c0
    have d1:wr.cell? ⟨b,o+k*3+1,none⟩=some (.int .u64 (es.getD k Ent.none).g):=zDs hBr hb hEl.c1
    have d2:wr.cell? ⟨b,o+k*3+2,none⟩=some (.slice A' (es.getD k Ent.none).fs.length c'):=zDs hBr hb hEl.c2
    obtain ⟨x,hx⟩: ∃x,x=es.getD k Ent.none:=⟨_,rfl⟩
    rw [←hx] at d0 d1 d2
    have HX:=zy hx
    clear hx hEl hc hR1
    by_cases h20:20<x.fs.length
    ·have t3:decide ((20:Int)<x.fs.length)=true:=by simp;omega
     have HR:Hid (OfR kind kk p es 0 0):=zy (.list K0.out K1.out (.inr ⟨.inr (.inl (fun h=>by
      have h1:=(h.2 k hlt).whole.len2
      rw [←HX.out] at h1
      omega)),rfl,rfl⟩))
     clear h20
     go_wp2
     go_ret3
     exact ⟨0,0,3,rfl,HR.out,(hB.trans (hBr.mono (by omega))).alloc (by omega) _⟩
    ·have t3:decide ((20:Int)<x.fs.length)=false:=by simp;omega
     clear h20
     go_wp2
     go_roundw
     case rel=>exact ⟨k+1,by go_num,by omega,hBr.alloc hws _⟩
     case measure=>simp [intOf];omega
   ·obtain rfl:k=es.length:=by omega
    have e3:=zDs hBr (by omega) b3
    have e2:=zDs hBr (by omega) b2
    have hRr:=(hR1.below hBr).mono hws
    have hBw:=hB.trans (hBr.mono (show w.heap.size≤w1.heap.size by omega))
    clear hR1 b2 b3 hB hBr
    go_wp2_with fail
    refine (zQ0 A c es wr hl hlc hRr HE.out).mono ?_
    rintro r w2 ⟨i,er,rfl,hck,hB2⟩
    have i3:=zDs hB2 (by omega) e3
    have i2:=zDs hB2 (by omega) e2
    have hR2:=(hRr.below hB2).mono hB2.size
    have hBv:=hBw.trans (hB2.mono (show w.heap.size≤wr.heap.size by omega))
    have hs2:=hB2.size
    have HC:=zy hck
    clear hRr e3 e2 hBw hB2 hck
    by_cases her:er=0
    ·subst her
     have HA:Hid (zAb es):=zy (by
      rcases HC.out with ⟨a,b,c⟩|⟨a,k,hk,b,c,d⟩|⟨a,b,c,d⟩
      ·omega
      ·omega
      ·exact ⟨a,d⟩)
     clear HC
     go_wp2
     go_loopw [74] (fun I wr=> ∃k:Nat,I= .int .i64 k∧k≤es.length∧Hid (∀j,j<k→(es.getD j Ent.none).p≠p)∧Below w2.heap.size w2 wr) (fun I _=>es.length-(intOf I).toNat)
     case atStart=>exact ⟨0,rfl,by omega,zy (fun j hj=>by omega),Below.refl _ _⟩
     case round=>
      obtain ⟨k,rfl,hk,hno,hBz⟩:=hrel
      have hwz:=hBz.size
      have m2:=zDs hBz (by omega) i2
      by_cases hlt:k<es.length
      ·obtain ⟨b,o,rfl,hb,hc⟩:=hR2 (by omega)
       obtain ⟨A',c',hEl⟩:=hc k hlt
       have d0:wr.cell? ⟨b,o+k*3,none⟩=some (.int .u64 (es.getD k Ent.none).p):=zDs hBz hb hEl.c0
       have d1:wr.cell? ⟨b,o+k*3+1,none⟩=some (.int .u64 (es.getD k Ent.none).g):=zDs hBz hb hEl.c1
       have d2:wr.cell? ⟨b,o+k*3+2,none⟩=some (.slice A' (es.getD k Ent.none).fs.length c'):=zDs hBz hb hEl.c2
       obtain ⟨x,hx⟩: ∃x,x=es.getD k Ent.none:=⟨_,rfl⟩
       rw [←hx] at d0 d1 d2
       have HX:=zy hx
       have hBx:=(hBv.trans (hBz.mono (by omega))).alloc (show w.heap.size≤wr.heap.size by omega) (.cells #[.int .u64 x.p, .int .u64 x.g, .slice A' x.fs.length c'] 141)
       have hBy:=hBz.alloc hwz (.cells #[.int .u64 x.p, .int .u64 x.g, .slice A' x.fs.length c'] 141)
       have m2':(wr.alloc (.cells #[.int .u64 x.p, .int .u64 x.g, .slice A' x.fs.length c'] 141)).cell? ⟨w.heap.size,2,none⟩=some (.int .u64 p):=(World.cell?_alloc_past _ _ _ (show w.heap.size<wr.heap.size by omega)).trans m2
       clear hx hEl hc hR2
       by_cases hxp:x.p=p
       ·have t4:(x.p == p)=true:=by simp [hxp]
        have HR:Hid (OfR kind kk p es p x.g):=zy (.list K0.out K1.out (.inl ⟨hl,HA.out,rfl,k,hlt,by rw [←HX.out];exact hxp,by rw [←HX.out],hno.out⟩))
        have HXP:=zy hxp
        clear hxp
        go_wp2
        go_quiet (fail)
        go_wp2
        go_ret3
        exact ⟨x.p,x.g,0,rfl,by rw [HXP.out];exact HR.out,below_drewN hBx _⟩
       ·have t4:(x.p == p)=false:=by simp [hxp]
        have hno2:Hid (∀j,j<k+1→(es.getD j Ent.none).p≠p):=zy (fun j hj=>by
         by_cases e:j=k
         ·subst e;rw [←HX.out];exact hxp
         ·exact hno.out j (by omega))
        clear hxp
        go_wp2
        go_roundw
        case rel=>exact ⟨k+1,by go_num,by omega,hno2,hBy⟩
        case measure=>simp [intOf];omega
      ·obtain rfl:k=es.length:=by omega
       have HR:Hid (OfR kind kk p es 0 0):=zy (.list K0.out K1.out (.inr ⟨.inr (.inr (fun e he=>by
        obtain ⟨j,hj,rfl⟩:=List.getElem_of_mem he
        have:=hno.out j hj
        rwa [List.getD_eq_getElem?_getD,List.getElem?_eq_getElem hj,Option.getD_some] at this)),rfl,rfl⟩))
       have hBx:=hBv.trans (hBz.mono (show w.heap.size≤w2.heap.size by omega))
       clear hR2 hno
       go_wp2
       go_ret3
       exact ⟨0,0,14,rfl,HR.out,hBx⟩
    ·have t4:(er != 0)=true:=by simp [her]
     have HR:Hid (OfR kind kk p es 0 0):=zy (.list K0.out K1.out (.inr ⟨.inr (.inl (fun h=>by
      rcases HC.out with ⟨a,b,c⟩|⟨a,k,hk,b,c,d,f⟩|⟨a,b,c,d⟩
      ·have:=h.1;omega
      ·exact f (h.2 k hk)
      ·exact her c)),rfl,rfl⟩))
     clear her HC hR2
     go_wp2
     go_ret3
     exact ⟨0,0,er,rfl,HR.out,hBv⟩
 ·have t2:decide ((40:Int)<es.length)=true:=by simp;omega
  have HR:Hid (OfR kind kk p es 0 0):=zy (.list K0.out K1.out (.inr ⟨.inl (by omega),rfl,rfl⟩))
  clear hl hR
  go_enter Tryz.func49,Tryz.ntmps49
  go_wp2
  go_ret3
  exact ⟨0,0,13,rfl,HR.out,hB⟩
theorem zMO (A:Option Addr) (c:Nat) (kind kk p:Int) (es:List Ent) (w:World) (h0:0≤p) (h1:p≤18446744073709551615)
  (hlm:es.length≤140737488351232) (hlc:es.length≤c) (hR:RdE w w.heap.size A es) (hE: ∀e ∈ es,zAm e):
  Calls Tryz.prog 49 #[.agg #[.int .i64 kind, .int .i64 kk, .int .u64 p, .slice A es.length c]] w (OfP kind kk p es w):=by
 by_cases k0:kind=0
 ·subst k0;exact zMU A c kk p es w h0 h1
 ·by_cases k1:kind=1
  ·subst k1;exact zMS A c kk p es w h0 h1
  ·exact zMR A c kind kk p es w k0 k1 h0 h1 hlm hlc hR hE
end

section
open Alg
theorem zIH {w w':World} (h:Below w.heap.size w w') (row:Option Nat):w.grownBy w' row:=⟨h.os,h.tape,h.output,h.size,fun i hi _=>h.block i hi⟩
theorem zN5 {w:World} {base base':Nat} {e:TypeId} {size:Nat} {v:Value} {n:Nat} {xs:List Value} (h:w.ownsRow base e size v n xs) (hb:base'≤base):w.ownsRow base' e size v n xs:=
 ⟨h.1,h.2.imp id fun ⟨g,cap,cur,e1,h2,r⟩=>⟨g,cap,cur,e1,Nat.le_trans hb h2,r⟩⟩
def zA7 (w:World) (B:Nat) (A:Option Addr) (c:Nat) (fs:List (Int×Int)):Prop:=w.ownsRow B 153 2 (.slice A fs.length c) fs.length (zO4 fs)
theorem zA7.kept {w w':World} {B B':Nat} {A:Option Addr} {c n:Nat} {fs:List (Int×Int)} {O:Value} {xs:List Value} (h:zA7 w B A c fs) (hO:w.ownsRow B' 115 3 O n xs) (hg:w.grownBy w' O.ownBlock):zA7 w' B A c fs:=by
 refine World.ownsRow.kept h hg ?_
 rcases hO.2 with ⟨rfl,_⟩|⟨g,cap,cur,rfl,_,hgb,_⟩
 ·rcases h.2 with ⟨e,_⟩|⟨g',cap',cur',e,_⟩
  ·exact .inl (by rw [e];rfl)
  ·exact .inr (by rw [e];simp [Value.ownBlock])
 ·rcases h.2 with ⟨e,_⟩|⟨g',cap',cur',e,_,hgb',_⟩
  ·exact .inl (by rw [e];rfl)
  ·refine .inr ?_
   rw [e]
   simp only [Value.ownBlock]
   intro hh
   injection hh with hh
   subst hh
   rw [hgb] at hgb'
   injection hgb' with h1
   injection h1 with _ h2
   exact absurd h2 (by decide)
theorem zA7.below {w w':World} {B:Nat} {A:Option Addr} {c:Nat} {fs:List (Int×Int)} (h:zA7 w B A c fs) (hb:Below w.heap.size w w'):zA7 w' B A c fs:=
 World.ownsRow.kept h (zIH hb none) (by
  rcases h.2 with ⟨e,_⟩|⟨g',cap',cur',e,_⟩
  ·exact .inl (by rw [e];rfl)
  ·exact .inr (by rw [e];simp [Value.ownBlock]))
theorem zO7 (l:List (Int×Int)): ∀j,j<l.length→(zO4 l)[j*2]? =some (.int .u64 (l.getD j (0,0)).1)∧(zO4 l)[j*2+1]? =some (.int .i64 (l.getD j (0,0)).2):=by
 induction l with
 | nil=>intro j hj;simp at hj
 | cons x t ih=>
  intro j hj
  have hx:zO4 (x :: t)= .int .u64 x.1 :: .int .i64 x.2 :: zO4 t:=rfl
  rw [hx]
  cases j with
  | zero=>exact ⟨rfl,rfl⟩
  | succ j=>
   have:=ih j (by simpa using hj)
   rw [show (j+1)*2=j*2+1+1 by omega]
   simpa using this
theorem zBc (g n:Nat):(⟨g,0,none⟩:Addr).add n=⟨g,0+n,none⟩:=by unfold Addr.add;split <;> simp_all
theorem zA7.rd {w:World} {B:Nat} {A:Option Addr} {c:Nat} {fs:List (Int×Int)} (h:zA7 w B A c fs):RdPI w w.heap.size A fs:=by
 intro hl
 rcases h.2 with ⟨e,hz⟩|⟨g,cap,cur,e,_,hgb,_⟩
 ·omega
 ·injection e with e1 _ _
  subst e1
  refine ⟨g,0,rfl,(Array.getElem?_eq_some_iff.1 hgb).1,fun j hj=>?_⟩
  obtain ⟨c0,c1⟩:=zO7 fs j hj
  have d0:=World.ownsRow.cells h (g:=g) rfl (j*2) _ c0
  have d1:=World.ownsRow.cells h (g:=g) rfl (j*2+1) _ c1
  rw [zBc] at d0 d1
  exact ⟨d0,by rw [Nat.add_assoc];exact d1⟩
theorem zO5 (a:List (Int×Int)) (x:Int×Int):zO4 (a ++ [x])=zO4 a ++ [.int .u64 x.1, .int .i64 x.2]:=by simp [zO4]
theorem zU6 {α:Type} (l:List α) (k:Nat) (d:α) (h:k<l.length):l.take (k+1)=l.take k ++ [l.getD k d]:=by
 rw [List.take_succ_eq_append_getElem h,List.getD_eq_getElem?_getD,List.getElem?_eq_getElem h];rfl
def zAM (w:World) (B:Nat) (es:List Ent) (l:List (Ent×Option Addr×Nat)):Prop:=
 l.length≤es.length∧ ∀i,i<l.length→(l.getD i (Ent.none,none,0)).1=es.getD i Ent.none∧zA7 w B (l.getD i (Ent.none,none,0)).2.1 (l.getD i (Ent.none,none,0)).2.2 (l.getD i (Ent.none,none,0)).1.fs
def zAN (es:List Ent) (w:World) (r:Ending) (w':World):Prop:=
 ∃A' c',r= .returned (.slice A' es.length c')∧es.length≤c'∧RdE w' w'.heap.size A' es∧Below w.heap.size w w'
theorem zSn {es:List Ent} {l:List (Ent×Option Addr×Nat)} {v:Value} {w wr:World} (hR:zAM wr w.heap.size es l) (hl:l.length=es.length)
  (hown:wr.ownsRow w.heap.size 115 3 v l.length (zGh l)) (hB:Below w.heap.size w wr):zAN es w (.returned v) wr:=by
 have h0:=hown
 rcases hown.2 with ⟨rfl,hz⟩|⟨gb,cap,cur,rfl,hbase,hgb,r1,r2,r3,r4⟩
 ·refine ⟨none,0,by rw [←hl,hz],by omega,fun h=>by omega,hB⟩
 ·refine ⟨some ⟨gb,0,none⟩,cap,by rw [hl],by omega,fun h=>?_,hB⟩
  refine ⟨gb,0,rfl,(Array.getElem?_eq_some_iff.1 hgb).1,fun j hj=>?_⟩
  have hj':j<l.length:=by omega
  obtain ⟨e0,eo⟩:=hR.2 j hj'
  obtain ⟨c0,c1,c2⟩:=zGj l j hj'
  have d0:=World.ownsRow.cells h0 (g:=gb) rfl (j*3) _ c0
  have d1:=World.ownsRow.cells h0 (g:=gb) rfl (j*3+1) _ c1
  have d2:=World.ownsRow.cells h0 (g:=gb) rfl (j*3+2) _ c2
  rw [zBc] at d0 d1 d2
  rw [e0] at d0 d1 d2 eo
  exact ⟨_,_,d0,by rw [Nat.add_assoc];exact d1,by rw [Nat.add_assoc];exact d2,eo.rd⟩
theorem zAp.unique {es:List Ent} {p g g':Int} (h:zAp es p g) (h':zAp es p g'):g=g':=by
 obtain ⟨a,a1,a2,a3,a4⟩:=h
 obtain ⟨b,b1,b2,b3,b4⟩:=h'
 have:a=b:=by
  rcases Nat.lt_trichotomy a b with h|h|h
  ·exact absurd a2 (b4 a h)
  ·exact h
  ·exact absurd b2 (a4 b h)
 subst this
 rw [←a3,←b3]
theorem Cert.p3 {p g:Int} (h:Cert p g):3≤p:=by
 obtain ⟨es,hA,k,hk,hp,_⟩:=h
 rw [←hp];exact (hA.2 k hk).p3
def NewV (es:List Ent) (p:Int) (v:Value) (w':World):Prop:=((¬zAb es∨ ∀e ∈ es,e.p≠p)∧v= .pointer none)∨(∃g,zAb es∧zAp es p g∧Fd w' w'.heap.size v p g)
theorem NewP.form {es:List Ent} {p:Int} {w w':World} {r:Ending} (h:NewP es p w r w'): ∃v er,r= .returned (.tuple #[v, .int .i64 er])∧NewV es p v w'∧Below w.heap.size w w':=by
 obtain ⟨hB,⟨er,a,rfl,_⟩|⟨a,b,rfl⟩|⟨v,g,a,b,rfl,c⟩⟩:=h
 ·exact ⟨_,_,rfl, .inl ⟨.inl a,rfl⟩,hB⟩
 ·exact ⟨_,_,rfl, .inl ⟨.inr b,rfl⟩,hB⟩
 ·exact ⟨_,_,rfl, .inr ⟨g,a,b,c⟩,hB⟩
def zA3 (v:Value) (p g:Int) (w':World):Prop:=(p=0∧g=0∧v= .pointer none)∨(3≤p∧Cert p g∧Fd w' w'.heap.size v p g)
def zA1 (w:World) (r:Ending) (w':World):Prop:= ∃v p g,r= .returned (.tuple #[v, .int .u64 p, .int .u64 g])∧zA3 v p g w'∧Below w.heap.size w w'
theorem zLo {kind kk p p' g':Int} {es:List Ent} {v:Value} {w':World} (k0:kind≠0) (k1:kind≠1) (hl:es.length≤40) (hO:OfR kind kk p es p' g') (hN:NewV es p v w'):zA3 v p' g' w':=by
 rcases hO.2.2 k0 k1 with ⟨_,hA,rfl,hF⟩|⟨hno,rfl,rfl⟩
 ·rcases hN with ⟨h,_⟩|⟨g,_,hF',hFd⟩
  ·rcases h with h|h
   ·exact absurd hA h
   ·obtain ⟨k,hk1,hk2,_⟩:=hF
    exact absurd hk2 (h _ (by rw [List.getD_eq_getElem?_getD,List.getElem?_eq_getElem hk1];simp))
  ·have:=hF'.unique hF
   subst this
   exact .inr ⟨Cert.p3 ⟨es,hA,hF⟩,⟨es,hA,hF⟩,hFd⟩
 ·rcases hN with ⟨_,rfl⟩|⟨g,hA,hF,_⟩
  ·exact .inl ⟨rfl,rfl,rfl⟩
  ·rcases hno with h|h|h
   ·omega
   ·exact absurd hA h
   ·obtain ⟨k,hk1,hk2,_⟩:=hF
    exact absurd hk2 (h _ (by rw [List.getD_eq_getElem?_getD,List.getElem?_eq_getElem hk1];simp))
theorem zA2.form {p g:Int} {w w':World} {r:Ending} (h:zA2 p g w r w'): ∃v er,r= .returned (.tuple #[v, .int .i64 er])∧((p=0∧v= .pointer none)∨(3≤p∧Cert p g∧Fd w' w'.heap.size v p g))∧Below w.heap.size w w':=by
 obtain ⟨hB,⟨er,a,b,rfl⟩|⟨v,a,b,rfl,c⟩⟩:=h
 ·exact ⟨_,_,rfl, .inl ⟨a,rfl⟩,hB⟩
 ·exact ⟨_,_,rfl, .inr ⟨a,b,c⟩,hB⟩
end

section
open Alg
theorem zSm (A:Option Addr) (c:Nat) (es:List Ent) (w:World) (hl:es.length≤40) (hR:RdE w w.heap.size A es) (hE: ∀e ∈ es,zAm e):
  Calls Tryz.prog 75 #[.slice A es.length c] w (zAN es w):=by
 obtain ⟨i0,hi,hz0,hz1,hz2⟩:=info_parts zJk
 obtain ⟨j0,hj,hy0,hy1,hy2⟩:=info_parts zJp
 have HE:=zy hE
 clear hE
 go_enter Tryz.func75,Tryz.ntmps75
 go_wp2
 go_loopw [3,11] (fun O I wr=> ∃(k:Nat) (l:List (Ent×Option Addr×Nat)) (Ov:Value),Ov=O∧I= .int .i64 k∧k≤es.length∧l.length=k∧wr.ownsRow w.heap.size 115 3 Ov l.length (zGh l)∧Below w.heap.size w wr∧zAM wr w.heap.size es l) (fun _ I _=>es.length-(intOf I).toNat)
 case atStart=>exact ⟨0,[],_,rfl,rfl,by omega,rfl,World.ownsRow_nil _ _ _ _,Below.refl _ _,by simp,fun i hi=>absurd hi (by simp)⟩
 case round=>
  obtain ⟨k,l,O,rfl,rfl,hk,hlk,hown,hB,hRB⟩:=hrel
  have hws:=hB.size
  have HRB:=zy hRB
  clear hRB
  by_cases hlt:k<es.length
  ·obtain ⟨b,o,rfl,hb,hc⟩:=hR (by omega)
   obtain ⟨A',c',hEl⟩:=hc k hlt
   have d0:wr.cell? ⟨b,o+k*3,none⟩=some (.int .u64 (es.getD k Ent.none).p):=zDs hB hb hEl.c0
   have d1:wr.cell? ⟨b,o+k*3+1,none⟩=some (.int .u64 (es.getD k Ent.none).g):=zDs hB hb hEl.c1
   have d2:wr.cell? ⟨b,o+k*3+2,none⟩=some (.slice A' (es.getD k Ent.none).fs.length c'):=zDs hB hb hEl.c2
   have dF:RdPI w w.heap.size A' (es.getD k Ent.none).fs:=hEl.rd
   have hxo:=HE.out (es.getD k Ent.none) (by rw [List.getD_eq_getElem?_getD,List.getElem?_eq_getElem hlt];exact List.getElem_mem hlt)
   obtain ⟨x,hx⟩: ∃x,x=es.getD k Ent.none:=⟨_,rfl⟩
   rw [←hx] at d0 d1 d2 dF hxo
   have hxl:=hxo.len
   have HX:=zy hx
   clear hx hEl hc hR hxo
   go_wp2
   have hB1:=hB.alloc hws (.cells #[.int .u64 x.p, .int .u64 x.g, .slice A' x.fs.length c'] 141)
   have k0:(wr.alloc (.cells #[.int .u64 x.p, .int .u64 x.g, .slice A' x.fs.length c'] 141)).cell? ⟨wr.heap.size,0,none⟩=some (.int .u64 x.p):=World.cell?_alloc_at _ _ _ _ rfl
   have k1:(wr.alloc (.cells #[.int .u64 x.p, .int .u64 x.g, .slice A' x.fs.length c'] 141)).cell? ⟨wr.heap.size,1,none⟩=some (.int .u64 x.g):=World.cell?_alloc_at _ _ _ _ rfl
   have hown1:=zy (hown.alloc (.cells #[.int .u64 x.p, .int .u64 x.g, .slice A' x.fs.length c'] 141))
   have hsz1:wr.heap.size+1≤(wr.alloc (.cells #[.int .u64 x.p, .int .u64 x.g, .slice A' x.fs.length c'] 141)).heap.size:=by simp
   have HBr:=zy ((Below.refl wr.heap.size wr).alloc (Nat.le_refl _) (.cells #[.int .u64 x.p, .int .u64 x.g, .slice A' x.fs.length c'] 141))
   generalize wr.alloc (.cells #[.int .u64 x.p, .int .u64 x.g, .slice A' x.fs.length c'] 141)=w1 at *
   obtain ⟨wp,rfl⟩: ∃wp:World,wp=wr:=⟨_,rfl⟩
   have dF1:=dF.below hB1
   clear d0 d1 d2 dF hown
   go_loopw [6,18] (fun L I wr=> ∃(i:Nat) (Lv:Value),Lv=L∧I= .int .i64 i∧i≤x.fs.length∧wr.ownsRow w1.heap.size 153 2 Lv i (zO4 (x.fs.take i))∧Below w1.heap.size w1 wr) (fun _ I _=>x.fs.length-(intOf I).toNat)
   case atStart=>exact ⟨0,_,rfl,rfl,by omega,World.ownsRow_nil _ _ _ _,Below.refl _ _⟩
   case round=>
    obtain ⟨i,L,rfl,rfl,hi',hL,hB2⟩:=hrel
    have hs2:=hB2.size
    by_cases hlt2:i<x.fs.length
    ·obtain ⟨bF,oF,rfl,hbF,hcF⟩:=dF1 (by omega)
     have f0:wr.cell? ⟨bF,oF+i*2,none⟩=some (.int .u64 (x.fs.getD i (0,0)).1):=zDs hB2 (by omega) (hcF i hlt2).1
     have f1:wr.cell? ⟨bF,oF+i*2+1,none⟩=some (.int .i64 (x.fs.getD i (0,0)).2):=zDs hB2 (by omega) (hcF i hlt2).2
     have htk:=zU6 x.fs i (0,0) hlt2
     obtain ⟨y,hy⟩: ∃y,y=x.fs.getD i (0,0):=⟨_,rfl⟩
     rw [←hy] at f0 f1 htk
     have HTK:=zy htk
     clear hy hcF dF1 htk
     go_wp2_with (at_builtin;refine wpList_append_own _ rfl _ _ 113 rfl w1.heap.size 153 j0 (.agg #[.int .u64 0, .int .i64 0]) 2 16 Tryz.underlying113 hj hy0 hy1 hy2 rfl (by decide) _ _ _ rfl ((hL.alloc _).alloc _) ⟨wr.heap.size+1,0,none⟩ 1 1 [.int .u64 y.1, .int .i64 y.2] rfl rfl ?c1 ?c2 ?c3 ?c4 ?c5 ?_)
     case c1=>
      intro j u hj
      match j,hj with
      | 0,hj=>simp at hj;subst hj;simp [Addr.add]
      | 1,hj=>simp at hj;subst hj;simp [Addr.add]
     case c2=>intro u hu;simp at hu;rcases hu with rfl|rfl <;> rfl
     case c3=>unfold maxLen;omega
     case c4=>omega
     case c5=>simp;omega
     intro v' w2 hown' hgrow _
     rw [←zO5,←HTK.out] at hown'
     have hB':=((hB2.alloc hs2 (.cells #[.int .u64 y.1, .int .i64 y.2] 152)).alloc (by simp;omega) (.cells #[.int .u64 y.1, .int .i64 y.2] 153)).grown hgrow (by simp;omega) (fun k hk=>(hL.lt k hk).1)
     clear hgrow hL hB2
     go_wp2
     go_roundw
     case rel=>exact ⟨i+1,_,rfl,by go_num,by omega,hown',hB'⟩
     case measure=>simp [intOf];omega
    ·obtain rfl:i=x.fs.length:=by omega
     rw [List.take_length] at hL
     have h2: ∃A2 c2,L= .slice A2 x.fs.length c2:=by
      rcases hL.2 with ⟨e,h0⟩|⟨g,cap,cur,e,_⟩
      ·exact ⟨none,0,by rw [e,h0]⟩
      ·exact ⟨_,_,e⟩
     obtain ⟨A2,c2,rfl⟩:=h2
     have HP:Hid (zA7 wr w.heap.size A2 c2 x.fs):=zy (zN5 hL (show w.heap.size≤w1.heap.size by omega))
     have hO:wr.ownsRow w.heap.size 115 3 O l.length (zGh l):=World.ownsRow.kept hown1.out (zIH hB2 none) (by
      rcases hown1.out.2 with ⟨e,_⟩|⟨g',cap',cur',e,_⟩
      ·exact .inl (by rw [e];rfl)
      ·exact .inr (by rw [e];simp [Value.ownBlock]))
     have HR1:Hid (zAM wr w.heap.size es l):=zy ⟨HRB.out.1,fun j hj=>⟨(HRB.out.2 j hj).1,((HRB.out.2 j hj).2.below HBr.out).below hB2⟩⟩
     have m0:=zDs hB2 (by omega) k0
     have m1:=zDs hB2 (by omega) k1
     have hBw:=hB1.trans (hB2.mono (by omega))
     clear k0 k1 hL hown1 HRB hB1 hB2 dF1
     go_wp2_with (at_builtin;refine wpList_append_own _ rfl _ _ 89 rfl w.heap.size 115 i0 (.agg #[.int .u64 0, .int .u64 0, .slice none 0 0]) 3 40 Tryz.underlying89 hi hz0 hz1 hz2 rfl (by decide) _ _ _ rfl (hO.alloc _) ⟨wr.heap.size,0,none⟩ 1 1 [.int .u64 x.p, .int .u64 x.g, .slice A2 x.fs.length c2] rfl rfl ?c1 ?c2 ?c3 ?c4 ?c5 ?_)
     case c1=>
      intro j u hj
      match j,hj with
      | 0,hj=>simp at hj;subst hj;simp [Addr.add]
      | 1,hj=>simp at hj;subst hj;simp [Addr.add]
      | 2,hj=>simp at hj;subst hj;simp [Addr.add]
     case c2=>intro u hu;simp at hu;rcases hu with rfl|rfl|rfl <;> rfl
     case c3=>unfold maxLen;omega
     case c4=>omega
     case c5=>simp;omega
     intro v' w6 hown' hgrow _
     rw [←zGi l (x,A2,c2)] at hown'
     have hB':=(hBw.alloc hBw.size (.cells #[.int .u64 x.p, .int .u64 x.g, .slice A2 x.fs.length c2] 115)).grown hgrow (by have:=hBw.size;simp;omega) (fun k hk=>(hO.lt k hk).1)
     have HL':Hid (zAM w6 w.heap.size es (l ++ [(x,A2,c2)])):=zy ⟨by rw [List.length_append,List.length_singleton];omega,fun j hj=>by
      rw [List.length_append,List.length_singleton] at hj
      have hO1:=hO.alloc (.cells #[.int .u64 x.p, .int .u64 x.g, .slice A2 x.fs.length c2] 115)
      have hBa:=(Below.refl wr.heap.size wr).alloc (Nat.le_refl _) (.cells #[.int .u64 x.p, .int .u64 x.g, .slice A2 x.fs.length c2] 115)
      by_cases hjl:j<l.length
      ·have e2:(l ++ [(x,A2,c2)]).getD j (Ent.none,none,0)=l.getD j (Ent.none,none,0):=by simp [List.getD_eq_getElem?_getD,List.getElem?_append_left hjl]
       rw [e2]
       exact ⟨(HR1.out.2 j hjl).1,((HR1.out.2 j hjl).2.below hBa).kept hO1 hgrow⟩
      ·have e2:(l ++ [(x,A2,c2)]).getD j (Ent.none,none,0)=(x,A2,c2):=by
        have:j=l.length:=by omega
        subst this;simp [List.getD_eq_getElem?_getD]
       rw [e2]
       have:j=k:=by omega
       subst this
       exact ⟨HX.out,(HP.out.below hBa).kept hO1 hgrow⟩⟩
     clear hgrow hO hBw m0 m1
     go_wp2
     go_roundw
     case rel=>exact ⟨k+1,l ++ [(x,A2,c2)],_,rfl,by go_num,by omega,by simp [hlk],by rw [List.length_append,List.length_singleton];first|exact hown'|(rw [hlk];exact hown'),hB',HL'.out⟩
     case measure=>simp [intOf];omega
  ·obtain rfl:k=es.length:=by omega
   go_wp2
   go_ret
   exact zSn HRB.out hlk hown hB
theorem zLm (A:Option Addr) (c:Nat) (kind kk p:Int) (es:List Ent) (w:World) (h0:0≤p) (h1:p≤18446744073709551615)
  (hlm:es.length≤140737488351232) (hlc:es.length≤c) (hR:RdE w w.heap.size A es) (hE: ∀e ∈ es,zAm e):
  Calls Tryz.prog 32 #[.agg #[.int .i64 kind, .int .i64 kk, .int .u64 p, .slice A es.length c]] w (zA1 w):=by
 have HE:=zy hE
 have hB0:=(Below.refl w.heap.size w).alloc (Nat.le_refl _) (.cells #[.int .i64 kind, .int .i64 kk, .int .u64 p, .slice A es.length c] 25)
 clear hE
 go_enter Tryz.func32,Tryz.ntmps32
 go_wp2_with fail
 have b0:(w.alloc (.cells #[.int .i64 kind, .int .i64 kk, .int .u64 p, .slice A es.length c] 25)).cell? ⟨w.heap.size,0,none⟩=some (.int .i64 kind):=World.cell?_alloc_at _ _ _ _ rfl
 have b1:(w.alloc (.cells #[.int .i64 kind, .int .i64 kk, .int .u64 p, .slice A es.length c] 25)).cell? ⟨w.heap.size,1,none⟩=some (.int .i64 kk):=World.cell?_alloc_at _ _ _ _ rfl
 have b2:(w.alloc (.cells #[.int .i64 kind, .int .i64 kk, .int .u64 p, .slice A es.length c] 25)).cell? ⟨w.heap.size,2,none⟩=some (.int .u64 p):=World.cell?_alloc_at _ _ _ _ rfl
 have b3:(w.alloc (.cells #[.int .i64 kind, .int .i64 kk, .int .u64 p, .slice A es.length c] 25)).cell? ⟨w.heap.size,3,none⟩=some (.slice A es.length c):=World.cell?_alloc_at _ _ _ _ rfl
 have hs1:w.heap.size+1≤(w.alloc (.cells #[.int .i64 kind, .int .i64 kk, .int .u64 p, .slice A es.length c] 25)).heap.size:=by simp
 generalize w.alloc (.cells #[.int .i64 kind, .int .i64 kk, .int .u64 p, .slice A es.length c] 25)=w1 at *
 have hR1:=(hR.below hB0).mono (show w.heap.size≤w1.heap.size by omega)
 refine (zMO A c kind kk p es w1 h0 h1 hlm hlc hR1 HE.out).mono ?_
 rintro r w2 ⟨p',g',er,rfl,hO,hB2⟩
 have HO:=zy hO
 have d0:=zDs hB2 (by omega) b0
 have d1:=zDs hB2 (by omega) b1
 have d2:=zDs hB2 (by omega) b2
 have d3:=zDs hB2 (by omega) b3
 have hR2:=(hR1.below hB2).mono hB2.size
 have hBw:=hB0.trans (hB2.mono (show w.heap.size≤w1.heap.size by omega))
 have hs2:=hB2.size
 clear hO b0 b1 b2 b3 hR1 hB0 hB2 hR
 by_cases k0:kind=0
 ·subst k0
  go_wp2_with fail
  refine (zAP p w2 h0 h1).mono ?_
  rintro r w3 hS
  have hS2: ∃v er,r= .returned (.tuple #[v, .int .i64 er])∧zA3 v p' g' w3∧Below w2.heap.size w2 w3:=by
   rcases HO.out.1 rfl with ⟨ho,rfl,g,hg,rfl⟩|⟨ho,rfl,rfl⟩
   ·rcases hS with ⟨_,g2,hg2,hM⟩|⟨hn,_⟩
    ·obtain ⟨v,er,hr,hv,hB⟩:=hM.form
     have:=hg.unique hg2
     subst this
     refine ⟨v,er,hr,?_,hB⟩
     rcases hv with ⟨h,_⟩|h
     ·have:=ho.1;omega
     ·exact .inr h
    ·exact absurd ho hn
   ·rcases hS with ⟨h,_⟩|⟨_,hM⟩
    ·exact absurd h ho
    ·obtain ⟨v,er,hr,hv,hB⟩:=hM.form
     refine ⟨v,er,hr,?_,hB⟩
     rcases hv with ⟨_,h⟩|⟨h,_⟩
     ·exact .inl ⟨rfl,rfl,h⟩
     ·omega
  obtain ⟨v,er',rfl,hM,hB3⟩:=hS2
  have HM:=zy hM
  clear hS hM
  go_wp2
  go_ret3
  exact ⟨_,_,_,rfl,HM.out,hBw.trans (hB3.mono (by omega))⟩
 ·by_cases k1:kind=1
  ·subst k1
   go_wp2_with fail
   refine (zA0 kk w2).mono ?_
   rintro r w3 hS
   have hS2: ∃v er,r= .returned (.tuple #[v, .int .i64 er])∧zA3 v p' g' w3∧Below w2.heap.size w2 w3:=by
    obtain ⟨rfl,rfl⟩:=HO.out.2.1 rfl
    obtain ⟨v,er,hr,hv,hB⟩:=hS.form
    refine ⟨v,er,hr,?_,hB⟩
    rcases hv with ⟨h,h'⟩|h
    ·refine .inl ⟨h,?_,h'⟩
     by_cases hk:0≤kk∧kk≤5
     ·have:=zKd hk;omega
     ·unfold zKb
      rw [if_neg (by omega),if_neg (by omega),if_neg (by omega),if_neg (by omega),if_neg (by omega),if_neg (by omega)]
    ·exact .inr h
   obtain ⟨v,er',rfl,hM,hB3⟩:=hS2
   have HM:=zy hM
   clear hS hM
   go_wp2
   go_ret3
   exact ⟨_,_,_,rfl,HM.out,hBw.trans (hB3.mono (by omega))⟩
  ·have t0:(kind == 0)=false:=by simp [k0]
   have t1:(kind == 1)=false:=by simp [k1]
   have K0:=zy k0
   have K1:=zy k1
   clear k0 k1
   by_cases hl:es.length≤40
   ·have t2:decide ((es.length:Int)≤40)=true:=by simp;omega
    have hRw:Hid (∀W,Below w2.heap.size w2 W→Calls Tryz.prog 75 #[.slice A es.length c] W (zAN es W)):=zy (fun W hW=>zSm A c es W hl ((hR2.below hW).mono hW.size) HE.out)
    have HR2:=zy hR2
    clear hR2
    go_wp2
    go_region_with (first
     | (go_at_call 75;refine (hRw.out _ (below_drewN (Below.refl _ _) _)).mono ?_;rintro r w3 ⟨A3,c3,rfl,hlc3,hR3,hB3⟩;have e2:=zDs hB3 (by first|exact hs2|(simp;omega)) d2)
     | (go_at_call 51;refine (zH0 _ _ es p _ (by omega) hlc3 hR3 HE.out).mono ?_;rintro r w4 hN;obtain ⟨v,er',rfl,hNv,hB4⟩:=hN.form))
    all_goals have HM:=zy (zLo K0.out K1.out hl HO.out hNv)
    all_goals clear hN hNv
    all_goals go_wp2
    all_goals go_ret3
    all_goals exact ⟨_,_,_,rfl,HM.out,hBw.trans (((below_drewN (Below.refl w2.heap.size w2) 1).trans (hB3.trans (hB4.mono hB3.size))).mono (show w.heap.size≤w2.heap.size by omega))⟩
   ·have t2:decide ((es.length:Int)≤40)=false:=by simp;omega
    have hM:Hid (p'=0∧g'=0):=zy (by
     rcases HO.out.2.2 K0.out K1.out with ⟨h,_⟩|⟨_,h⟩
     ·exact absurd h hl
     ·exact h)
    clear hl hR2
    go_wp2
    go_ret3
    exact ⟨_,_,_,rfl, .inl ⟨hM.out.1,hM.out.2,rfl⟩,hBw⟩
end

section
structure SrcA (w:World) (A:Option Addr) (c:Nat) (kind kk p:Int) (es:List Ent):Prop where
 p0:0≤p
 p1:p≤18446744073709551615
 hl:es.length≤140737488351232
 hc:es.length≤c
 hR:RdE w w.heap.size A es
 hE: ∀e ∈ es,zAm e
theorem SrcA.below {w w':World} {A:Option Addr} {c:Nat} {kind kk p:Int} {es:List Ent} (h:SrcA w A c kind kk p es) (hb:Below w.heap.size w w'):SrcA w' A c kind kk p es:=
 ⟨h.p0,h.p1,h.hl,h.hc,(h.hR.below hb).mono hb.size,h.hE⟩
structure LstA (w:World) (A:Option Addr) (c:Nat) (L:List Int):Prop where
 hl:L.length≤140737488351232
 hU:U64s L
 hR:RdI w w.heap.size .u64 A L
 hA:A=none→c=0
theorem LstA.below {w w':World} {A:Option Addr} {c:Nat} {L:List Int} (h:LstA w A c L) (hb:Below w.heap.size w w'):LstA w' A c L:=
 ⟨h.hl,h.hU,(h.hR.below hb).mono hb.size,h.hA⟩
end

section
theorem zLp {A:Option Addr} {c:Nat} {kind kk p:Int} {es:List Ent} {w:World} (h:SrcA w A c kind kk p es):
  Calls Tryz.prog 32 #[.agg #[.int .i64 kind, .int .i64 kk, .int .u64 p, .slice A es.length c]] w
   fun r w'=> ∃v p' g',r= .returned (.tuple #[v, .int .u64 p', .int .u64 g'])∧zA3 v p' g' w'∧Below w.heap.size w w':=
 zLm A c kind kk p es w h.p0 h.p1 h.hl h.hc h.hR h.hE
end
end Go.Proofs.YtmalmijdjhkklaaGreat
