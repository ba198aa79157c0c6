/- radix4: quarters. -/
import Derived.Test.YtmalmijdjhkklaaGreatRad4A
import Derived.Deep.RegionHeld3
import Derived.Deep.DrawnRows
import Derived.Test.YtmalmijdjhkklaaGreatW5
set_option linter.unusedVariables false
set_option linter.unusedSimpArgs false
set_option linter.unusedSectionVars false
set_option maxRecDepth 100000
set_option maxHeartbeats 16000000
namespace Go.Proofs.YtmalmijdjhkklaaGreat
open Go.RowKit
section
open Alg
section
variable {p:Nat} [NeZero p]
def qt (Ω:Fin p) (s:Nat) (F:Nat→Nat→Fin p) (q k:Nat):Fin p:=pw Ω (q*k*s)*F q k
def qf (Ω:Fin p) (m s:Nat) (F:Nat→Nat→Fin p) (i:Nat):Fin p:=
 if i/m=0 then (qt Ω s F 0 (i%m)+qt Ω s F 2 (i%m))+(qt Ω s F 1 (i%m)+qt Ω s F 3 (i%m))
 else if i/m=1 then (qt Ω s F 0 (i%m)-qt Ω s F 2 (i%m))+pw Ω (m*s)*(qt Ω s F 1 (i%m)-qt Ω s F 3 (i%m))
 else if i/m=2 then (qt Ω s F 0 (i%m)+qt Ω s F 2 (i%m))-(qt Ω s F 1 (i%m)+qt Ω s F 3 (i%m))
 else (qt Ω s F 0 (i%m)-qt Ω s F 2 (i%m))-pw Ω (m*s)*(qt Ω s F 1 (i%m)-qt Ω s F 3 (i%m))
def qrow (Ω:Fin p) (m s:Nat) (F:Nat→Nat→Fin p) (k:Nat):List Int:=full (4*m) fun i=>if i%m<k then ((qf Ω m s F i).val:Int) else 0
theorem idx4 {m k r:Nat} (hk:k<m):(k+r*m)%m=k∧(k+r*m)/m=r:=by
 constructor
 ·rw [Nat.add_mul_mod_self_right,Nat.mod_eq_of_lt hk]
 ·rw [Nat.add_mul_div_right _ _ (by omega),Nat.div_eq_of_lt hk,Nat.zero_add]
theorem zP0 (Ω:Fin p) (m s:Nat) (F:Nat→Nat→Fin p):qrow Ω m s F 0=List.replicate (4*m) 0:=by
 unfold qrow full
 rw [List.map_congr_left (g:=fun _=>(0:Int)) (fun i _=>by rw [if_neg (by omega)])]
 simp [List.map_const']
theorem zPx {Ω:Fin p} {m s:Nat} {F:Nat→Nat→Fin p} (hm:0<m):qrow Ω m s F m=lst (4*m) (qf Ω m s F):=
 zHQ fun i _=>by rw [if_pos (Nat.mod_lt _ hm)]
theorem zHU {n:Nat} {f f':Nat→Int} {i0 i1 i2 i3:Nat} {x0 x1 x2 x3:Int} (h0:f' i0=x0) (h1:f' i1=x1) (h2:f' i2=x2) (h3:f' i3=x3)
  (d01:i0≠i1) (d02:i0≠i2) (d03:i0≠i3) (d12:i1≠i2) (d13:i1≠i3) (d23:i2≠i3)
  (hr: ∀j,j<n→j≠i0→j≠i1→j≠i2→j≠i3→f' j=f j):((((full n f).set i0 x0).set i1 x1).set i2 x2).set i3 x3=full n f':=by
 unfold full
 apply List.ext_getElem
 ·simp
 ·intro j hj hj'
  simp at hj'
  simp only [List.getElem_set,List.getElem_map,List.getElem_range]
  by_cases e3:i3=j
  ·subst e3;rw [if_pos rfl,h3]
  ·rw [if_neg e3]
   by_cases e2:i2=j
   ·subst e2;rw [if_pos rfl,h2]
   ·rw [if_neg e2]
    by_cases e1:i1=j
    ·subst e1;rw [if_pos rfl,h1]
    ·rw [if_neg e1]
     by_cases e0:i0=j
     ·subst e0;rw [if_pos rfl,h0]
     ·rw [if_neg e0,hr j hj' (Ne.symm e0) (Ne.symm e1) (Ne.symm e2) (Ne.symm e3)]
theorem zPz {Ω:Fin p} {m s k:Nat} {F:Nat→Nat→Fin p} (hk:k<m):
  ((((qrow Ω m s F k).set k ((qf Ω m s F k).val:Int)).set (k+m) ((qf Ω m s F (k+1*m)).val:Int)).set (k+2*m) ((qf Ω m s F (k+2*m)).val:Int)).set (k+3*m) ((qf Ω m s F (k+3*m)).val:Int)=qrow Ω m s F (k+1):=by
 have e1:k+1*m=k+m:=by omega
 rw [e1]
 have m0:=idx4 (r:=0) hk
 have m1:=idx4 (r:=1) hk
 have m2:=idx4 (r:=2) hk
 have m3:=idx4 (r:=3) hk
 rw [Nat.zero_mul,Nat.add_zero] at m0
 rw [e1] at m1
 refine zHU (by rw [if_pos (by omega)]) (by rw [if_pos (by omega)]) (by rw [if_pos (by omega)]) (by rw [if_pos (by omega)]) (by omega) (by omega) (by omega) (by omega) (by omega) (by omega) fun j hj n0 n1 n2 n3=>?_
 have hne:j%m≠k:=fun h=>by
  have hd:=Nat.div_add_mod j m
  have hlt:j/m<4:=Nat.div_lt_of_lt_mul (by rw [Nat.mul_comm];exact hj)
  rw [h] at hd
  obtain ⟨r,hr⟩: ∃r,r=j/m:=⟨_,rfl⟩
  rw [←hr] at hd hlt
  have:r=0∨r=1∨r=2∨r=3:=by omega
  rcases this with rfl|rfl|rfl|rfl <;> omega
 by_cases h:j%m<k
 ·rw [if_pos h,if_pos (by omega)]
 ·rw [if_neg h,if_neg (by omega)]
end
def R4 (w1:World) (b G n:Nat) (v:Value) (L:List Int) (wz:World):Prop:=Below w1.heap.size w1 wz∧OwnU wz G (.slice (some ⟨G,0,none⟩) n n) n L∧wz.cell? ⟨b,0,none⟩=some v
theorem R4.drewN {w1 wz:World} {b G n:Nat} {v:Value} {L:List Int} (h:R4 w1 b G n v L wz) (k:Nat):R4 w1 b G n v L (wz.drewN k):=⟨below_drewN h.1 k,h.2.1.drewN k,h.2.2⟩
theorem R4.cell {w1 wz:World} {b G n:Nat} {v:Value} {L:List Int} (h:R4 w1 b G n v L wz) (o:Nat) (ho:o<n):wz.cell? ⟨G,o,none⟩=some (.int .u64 (L.getD o 0)):=(h.2.1.set o ho 0).2.1
theorem R4.fz {w1 wz:World} {b G n:Nat} {v:Value} {L:List Int} (h:R4 w1 b G n v L wz) (o:Nat) (ho:o<n):wz.frozen? ⟨G,o,none⟩=false:=(h.2.1.set o ho 0).2.2.1
theorem R4.set4 {w1 wz:World} {b G n:Nat} {v:Value} {L:List Int} (h:R4 w1 b G n v L wz) (hG:w1.heap.size≤G) {o0 o1 o2 o3:Nat} (h0:o0<n) (h1:o1<n) (h2:o2<n) (h3:o3<n) (x0 x1 x2 x3:Int):
  OwnU ((((wz.setCell ⟨G,o0,none⟩ (.int .u64 x0)).setCell ⟨G,o1,none⟩ (.int .u64 x1)).setCell ⟨G,o2,none⟩ (.int .u64 x2)).setCell ⟨G,o3,none⟩ (.int .u64 x3)) G (.slice (some ⟨G,0,none⟩) n n) n ((((L.set o0 x0).set o1 x1).set o2 x2).set o3 x3)∧
  Below w1.heap.size w1 ((((wz.setCell ⟨G,o0,none⟩ (.int .u64 x0)).setCell ⟨G,o1,none⟩ (.int .u64 x1)).setCell ⟨G,o2,none⟩ (.int .u64 x2)).setCell ⟨G,o3,none⟩ (.int .u64 x3)):=
 ⟨((((h.2.1.set o0 h0 x0).1.set o1 h1 x1).1.set o2 h2 x2).1.set o3 h3 x3).1,(((h.1.setCell hG _).setCell hG _).setCell hG _).setCell hG _⟩
attribute [local go_sem ↓] Go.wp_at_zero Go.wp_at_succ
theorem zP1 {p:Nat} [NeZero p] {w:World} {v:Value} {g W:Int} (h:Fd w w.heap.size v p g) (m s N:Nat) (AT:Option Addr) (cT:Nat) (A:Nat→Option Addr) (C:Nat→Nat) (F:Nat→Nat→Fin p)
  (hm:0<m) (hs:0<s) (hN:N=4*m*s) (hN4:N≤4096) (hW:pw (zt p W) N=1)
  (hT:RdI w w.heap.size .u64 AT (full N fun i=>lft p (W^i))) (hP: ∀q,q<4→RdI w w.heap.size .u64 (A q) (lst m (F q))):
  Calls Tryz.prog 172 #[.agg #[v, .slice AT N cT], .agg #[.slice (A 0) m (C 0), .slice (A 1) m (C 1), .slice (A 2) m (C 2), .slice (A 3) m (C 3)], .int .i64 s] w
   fun r w'=> ∃V,r= .returned V∧OwnU w' w.heap.size V (4*m) (lst (4*m) (qf (zt p W) m s F))∧Below w.heap.size w w':=by
 obtain ⟨i0,hi,hz0,hz1,hz2⟩:=info_parts zJt
 have HPM:=zy (And.intro h.p3 h.pmx)
 have HF:=zy h
 have HT:=zy hT
 have HP:=zy hP
 have HN:=zy hN
 have HW:=zy hW
 have hTl:(full N fun i=>lft p (W^i)).length=N:=zHS _ _
 have hms:m*s≤1024:=by
  have:4*m*s=4*(m*s):=Nat.mul_assoc 4 m s
  omega
 have hm4:m≤1024:=Nat.le_trans (Nat.le_mul_of_pos_right m hs) hms
 have hs4:s≤1024:=Nat.le_trans (Nat.le_mul_of_pos_left s hm) hms
 have eT: ∀k,(full N fun i=>lft p (W^i)).getD (k%N) 0=lft p (W^k):=fun k=>by
  have hN0:0<N:=by rw [hN];exact Nat.mul_pos (by omega) hs
  rw [zHR (Nat.mod_lt _ hN0)]
  refine zK1 ?_
  rw [←zt_eq,zt_pow,zt_pow,←pw_mod hW]
 have HE:=zy eT
 have hN0:0<N:=by rw [hN];exact Nat.mul_pos (by omega) hs
 clear h hT hP hN hW eT
 go_enter Tryz.func172,Tryz.ntmps172
 go_upto_region 2 with fail
 have hB0:=((Below.refl w.heap.size w).alloc (Nat.le_refl _) (.cells #[v, .slice AT N cT] 163)).alloc (by simp) (.cells #[.slice (A 0) m (C 0), .slice (A 1) m (C 1), .slice (A 2) m (C 2), .slice (A 3) m (C 3)] 210)
 obtain ⟨w1,hw1⟩: ∃w1,w1=(w.alloc (.cells #[v, .slice AT N cT] 163)).alloc (.cells #[.slice (A 0) m (C 0), .slice (A 1) m (C 1), .slice (A 2) m (C 2), .slice (A 3) m (C 3)] 210):=⟨_,rfl⟩
 have r0:w1.cell? ⟨w.heap.size,0,none⟩=some v:=by rw [hw1,World.cell?_alloc_past _ _ _ (by simp)];exact World.cell?_alloc_at _ _ _ _ rfl
 have r1:w1.cell? ⟨w.heap.size,1,none⟩=some (.slice AT N cT):=by rw [hw1,World.cell?_alloc_past _ _ _ (by simp)];exact World.cell?_alloc_at _ _ _ _ rfl
 have q0:w1.cell? ⟨w.heap.size+1,0,none⟩=some (.slice (A 0) m (C 0)):=by rw [hw1];exact World.cell?_alloc_at _ _ _ _ (by simp)
 have q1:w1.cell? ⟨w.heap.size+1,1,none⟩=some (.slice (A 1) m (C 1)):=by rw [hw1];exact World.cell?_alloc_at _ _ _ _ (by simp)
 have q2:w1.cell? ⟨w.heap.size+1,2,none⟩=some (.slice (A 2) m (C 2)):=by rw [hw1];exact World.cell?_alloc_at _ _ _ _ (by simp)
 have q3:w1.cell? ⟨w.heap.size+1,3,none⟩=some (.slice (A 3) m (C 3)):=by rw [hw1];exact World.cell?_alloc_at _ _ _ _ (by simp)
 have hs1:w.heap.size+2=w1.heap.size:=by rw [hw1];simp
 rw [←hw1] at hB0 ⊢
 clear hw1
 go_wp2_with (at_make;refine wpList_make_full _ rfl _ _ 54 rfl w1.heap.size 22 i0 (.int .u64 0) 1 Tryz.underlying54 hi hz0 hz1 _ _ _ _ (4*m) rfl rfl ?l1 ?l2 ?b2 ?b3 (Nat.le_refl _) ?_)
 case l1=>omega
 case l2=>omega
 case b2=>rw [hz2];omega
 case b3=>unfold maxLen;omega
 intro w2 hown hgrow
 have hown0:OwnU w2 w1.heap.size (.slice (some ⟨w1.heap.size,0,none⟩) (4*m) (4*m)) (4*m) (qrow (zt p W) m s F 0):=by
  unfold OwnU
  rw [zP0,zJC,←toList_madeCells_one];exact hown
 have hB1:Below w1.heap.size w1 w2:=(Below.refl _ _).grown hgrow (Nat.le_refl _) (fun k h=>by cases h)
 have hsz2:=hB1.size
 have hG2:w1.heap.size<w2.heap.size:=(World.ownsRow.lt hown0 _ rfl).2
 obtain ⟨G,hG⟩: ∃G,G=w1.heap.size:=⟨_,rfl⟩
 rw [←hG] at hown0 ⊢
 have hGe:Hid (G=w1.heap.size):=zy hG
 clear hown hgrow hG
 have hBT: ∀wz,Below w1.heap.size w1 wz→Below w.heap.size w wz:=fun wz hz=>hB0.trans (hz.mono (by omega))
 have HBT:=zy hBT
 clear hBT
 have hPw:Hid (∀(k:Nat) (wz:World),k≤1073741824→Below w1.heap.size w1 wz→Calls Tryz.prog 204 #[.agg #[v, .slice AT N cT], .int .i64 k] wz fun r w'=>r= .returned (.int .u64 (lft p (W^k)))∧Below wz.heap.size wz w'):=zy (fun k wz hk hz=>by
  have hR:=(HT.out.below (HBT.out wz hz)).mono (HBT.out wz hz).size
  have h1:=zOK AT cT v (full N fun i=>lft p (W^i)) k wz (by rw [hTl];exact hN0) (by rw [hTl];exact hN4) hk hR
  rw [hTl,HE.out] at h1
  exact h1)
 clear hTl
 obtain ⟨ms,hmse⟩: ∃ms:Nat,ms=m*s:=⟨_,rfl⟩
 have ems:(m:Int)*(s:Int)=(ms:Int):=by rw [hmse,Int.natCast_mul]
 rw [←hmse] at hms
 have HMS:=zy hmse
 clear hmse
 have c0:=zDs hB1 (by omega) r0
 have c1:=zDs hB1 (by omega) r1
 go_wp2_with fail
 refine (hPw.out ms _ (by omega) hB1).mono ?_
 rintro r w3 ⟨rfl,hB3⟩
 obtain ⟨tw,htw⟩: ∃tw,tw=lft p (W^ms):=⟨_,rfl⟩
 rw [←htw]
 have HTW:=zy htw
 have hown3:=hown0.below hB3
 have hB13:=hB1.trans (hB3.mono hsz2)
 have hG3:G<w3.heap.size:=by have:=hB3.size;have:=hGe.out;omega
 clear htw ems hown0 hB1 hB3 hG2 hsz2 c0 c1
 go_wp2
 go_loopw [30] (fun I wr=> ∃k:Nat,I= .int .i64 k∧k≤m∧OwnU wr G (.slice (some ⟨G,0,none⟩) (4*m) (4*m)) (4*m) (qrow (zt p W) m s F k)∧Below w1.heap.size w1 wr) (fun I _=>m-(intOf I).toNat)
 case atStart=>exact ⟨0,rfl,by omega,hown3,hB13⟩
 case round=>
  clear hown3 hB13
  obtain ⟨k,rfl,hk,hown,hB⟩:=hrel
  by_cases hlt:k<m
  ·have b0:=zDs hB (by omega) r0
   have b1:=zDs hB (by omega) r1
   have p0:=zDs hB (by omega) q0
   have p1:=zDs hB (by omega) q1
   have p2:=zDs hB (by omega) q2
   have p3':=zDs hB (by omega) q3
   have HO:=zy hown
   have hGr:G<wr.heap.size:=(World.ownsRow.lt hown _ rfl).2
   clear hown
   go_upto_region 8 with fail
   have hBr:Below wr.heap.size wr (wr.alloc (.cells #[.int .u64 0, .int .u64 0, .int .u64 0, .int .u64 0] 237)):=(Below.refl _ _).alloc (Nat.le_refl _) _
   have tc: ∀j,j<4→(wr.alloc (.cells #[.int .u64 0, .int .u64 0, .int .u64 0, .int .u64 0] 237)).cell? ⟨wr.heap.size,j,none⟩=some (.int .u64 (if j<0 then ((qt (zt p W) s F j k).val:Int) else 0)):=fun j hj=>by
    rw [if_neg (by omega),World.cell?_alloc_at _ _ _ _ rfl]
    rcases (show j=0∨j=1∨j=2∨j=3 by omega) with rfl|rfl|rfl|rfl <;> rfl
   have tf: ∀j,(wr.alloc (.cells #[.int .u64 0, .int .u64 0, .int .u64 0, .int .u64 0] 237)).frozen? ⟨wr.heap.size,j,none⟩=false:=fun j=>World.frozen?_alloc_at _ _ _ _ rfl
   have hsz5:wr.heap.size<(wr.alloc (.cells #[.int .u64 0, .int .u64 0, .int .u64 0, .int .u64 0] 237)).heap.size:=by simp
   generalize wr.alloc (.cells #[.int .u64 0, .int .u64 0, .int .u64 0, .int .u64 0] 237)=w5 at *
   have hswr:w1.heap.size≤wr.heap.size:=hB.size
   obtain ⟨wp,rfl⟩: ∃wp:World,wp=wr:=⟨_,rfl⟩
   obtain ⟨tb,htb⟩: ∃tb,tb=wp.heap.size:=⟨_,rfl⟩
   rw [←htb] at hBr tc tf hsz5 hswr hGr ⊢
   have x0:=zDs hBr (by omega) p0
   have x1:=zDs hBr (by omega) p1
   have x2:=zDs hBr (by omega) p2
   have x3:=zDs hBr (by omega) p3'
   have HTC:=zy tc
   have HTF:=zy tf
   have HTB:=zy htb
   clear htb tc tf
   go_wp2
   go_loopw [34] (fun I wr=> ∃q:Nat,I= .int .i64 q∧q≤4∧Hid (∀j,j<4→wr.cell? ⟨tb,j,none⟩=some (.int .u64 (if j<q then ((qt (zt p W) s F j k).val:Int) else 0)))∧Hid (∀j,wr.frozen? ⟨tb,j,none⟩=false)∧Below tb wp wr) (fun I _=>4-(intOf I).toNat)
   case atStart=>exact ⟨0,rfl,by omega,HTC,HTF,hBr⟩
   case round=>
    obtain ⟨q,rfl,hq4,hc,hf,hBi⟩:=hrel
    have hsi:=hBi.size
    have y0:=zDs hBi (by omega) b0
    have y1:=zDs hBi (by omega) b1
    by_cases hq:q<4
    ·obtain ⟨bq,oq,hAq,hbq,hcq⟩:=HP.out q hq (by rw [zLb];exact hm)
     have d:wr.cell? ⟨bq,oq+k,none⟩=some (.int .u64 ((F q k).val:Int)):=by
      have h1:=hcq k (by rw [zLb];exact hlt)
      rw [zKY hlt] at h1
      exact zDs hBi (by omega) (zDs (HBT.out wp hB) hbq h1)
     have hix: ∀W,(Instr.index 210 (.agg #[.slice (A 0) m (C 0), .slice (A 1) m (C 1), .slice (A 2) m (C 2), .slice (A 3) m (C 3)]) (.int .i64 q)).run Tryz.prog W= .ok (.slice (some ⟨bq,oq,none⟩) m (C q)) W:=fun W=>by
      rw [←hAq]
      rcases (show q=0∨q=1∨q=2∨q=3 by omega) with rfl|rfl|rfl|rfl <;> kernel_rfl
     have e0:=hc.out q hq
     have ef:=hf.out q
     obtain ⟨qk,hqk⟩: ∃qk:Nat,qk=q*k:=⟨_,rfl⟩
     obtain ⟨qks,hqks⟩: ∃qks:Nat,qks=qk*s:=⟨_,rfl⟩
     have eqk:(q:Int)*(k:Int)=(qk:Int):=by rw [hqk,Int.natCast_mul]
     have eqks:(qk:Int)*(s:Int)=(qks:Int):=by rw [hqks,Int.natCast_mul]
     have bqk:qk≤3072:=by rw [hqk];exact Nat.le_trans (Nat.mul_le_mul (show q≤3 by omega) (show k≤1024 by omega)) (by decide)
     have bqks:qks≤3145728:=by rw [hqks];exact Nat.le_trans (Nat.mul_le_mul bqk hs4) (by decide)
     have hval:Hid (W^qks*((F q k).val:Int)%(p:Int)=((qt (zt p W) s F q k).val:Int)):=zy (by
      rw [zGv,zt_pow,zt_of_val,hqks,hqk];rfl)
     obtain ⟨x,hx⟩: ∃x:Int,x=((F q k).val:Int):=⟨_,rfl⟩
     rw [←hx] at d hval
     have hxr:Hid (0≤x∧x≤18446744073709551615):=zy (by have:=(F q k).isLt;have:=HPM.out.2;rw [hx];omega)
     have hPq:Hid (∀wz,Below tb wp wz→(∀j,j<4→wz.cell? ⟨tb,j,none⟩=some (.int .u64 (if j<q then ((qt (zt p W) s F j k).val:Int) else 0)))→(∀j,wz.frozen? ⟨tb,j,none⟩=false)→tb<wz.heap.size→
       Calls Tryz.prog 204 #[.agg #[v, .slice AT N cT], .int .i64 qks] wz fun r w'=>r= .returned (.int .u64 (lft p (W^qks)))∧Below tb wp w'∧w'.cell? ⟨tb,q,none⟩=some (.int .u64 (if q<q then ((qt (zt p W) s F q k).val:Int) else 0))∧w'.frozen? ⟨tb,q,none⟩=false∧Hid (∀j,j<4→w'.cell? ⟨tb,j,none⟩=some (.int .u64 (if j<q then ((qt (zt p W) s F j k).val:Int) else 0)))∧Hid (∀j,w'.frozen? ⟨tb,j,none⟩=false)):=zy (fun wz hz hc' hf' ht=>
      (hPw.out qks wz (by omega) (hB.trans (hz.mono (by omega)))).mono fun r w' ⟨hr,hb⟩=>⟨hr,hz.trans (hb.mono (by omega)),zDs hb ht (hc' q hq),(hb.frozen (p:=⟨tb,q,none⟩) ht).trans (hf' q),
       zy (fun j hj=>zDs hb ht (hc' j hj)),zy (fun j=>(hb.frozen (p:=⟨tb,j,none⟩) ht).trans (hf' j))⟩)
     have hTq:Hid (∀wz,Below tb wp wz→Calls Tryz.prog 81 #[v, .int .u64 (lft p (W^qks)), .int .u64 x] wz fun r w'=>r= .returned (.int .u64 ((qt (zt p W) s F q k).val:Int))∧ ∃n,w'=wz.drewN n):=zy (fun wz hz=>by
      have h1:=zHM (HF.out.below (HBT.out wz (hB.trans (hz.mono (by omega))))) (W^qks) x hxr.out.1 hxr.out.2
      rw [hval.out] at h1
      exact h1)
     obtain ⟨lq,hlq⟩: ∃lq,lq=lft p (W^qks):=⟨_,rfl⟩
     obtain ⟨X,hX⟩: ∃X:Int,X=((qt (zt p W) s F q k).val:Int):=⟨_,rfl⟩
     rw [←hlq] at hPq hTq
     rw [←hX] at hTq
     have HX:=zy hX
     clear hlq hX hx hqk hqks hval hcq hAq
     have hq0:(0:Int)≤(q:Int):=by omega
     have hq44:(q:Int)<4:=by omega
     have s1:IntKind.i64.wrap (qk:Int)=(qk:Int):=IntWalk.i64_in _ (by omega)
     have s2:IntKind.i64.wrap (qks:Int)=(qks:Int):=IntWalk.i64_in _ (by omega)
     have hwt:w.heap.size<tb:=by omega
     have hbt:bq<tb:=by omega
     have dP:wp.cell? ⟨bq,oq+k,none⟩=some (.int .u64 x):=(hBi.cell (p:=⟨bq,oq+k,none⟩) hbt).symm.trans d
     have htw:tb<wr.heap.size:=World.block_lt_of_cell? wr _ e0
     go_upto_region 11 with fail
     have n1:w.heap.size≠tb:=by omega
     have n2:bq≠tb:=by omega
     have n3:tb≠w.heap.size:=by omega
     have n4:tb≠bq:=by omega
     go_region_held3 (fun wz=>wz.cell? ⟨w.heap.size,0,none⟩=some v∧wz.cell? ⟨w.heap.size,1,none⟩=some (.slice AT N cT)∧wz.cell? ⟨bq,oq+k,none⟩=some (.int .u64 x))
      (first|go_keep|(refine ⟨?_,?_,?_⟩ <;> first|assumption|go_keep))
      ((first
      | (go_at_call 204;refine (hPq.out _ (below_drewN hBi 1) hc.out hf.out htw).mono ?_;rintro r w6 ⟨rfl,hS6,hc6,hf6,hcc6,hff6⟩;have z0:=zDs hS6 hwt b0;have z0':=zDs hS6 hwt b1;have z1:=zDs hS6 hbt dP)
      | (go_at_call 81;refine (hTq.out _ hS6).mono ?_;rintro r w7 ⟨rfl,n7,rfl⟩)))
     have HC2:Hid (∀j,j<4→((w6.drewN n7).setCell ⟨tb,q,none⟩ (.int .u64 X)).cell? ⟨tb,j,none⟩=some (.int .u64 (if j<q+1 then ((qt (zt p W) s F j k).val:Int) else 0))):=zy (fun j hj=>by
      by_cases e:j=q
      ·subst e
       have hc7:(w6.drewN n7).cell? ⟨tb,j,none⟩=some (.int .u64 (if j<j then ((qt (zt p W) s F j k).val:Int) else 0)):=hcc6.out j hj
       rw [World.cell?_setCell_same _ _ _ hc7,if_pos (by omega),HX.out]
      ·rw [World.cell?_setCell_other _ _ _ _ (fun h=>e (by injection h with _ h2 _;exact h2.symm))]
       have hc7:(w6.drewN n7).cell? ⟨tb,j,none⟩=some (.int .u64 (if j<q then ((qt (zt p W) s F j k).val:Int) else 0)):=hcc6.out j hj
       rw [hc7]
       by_cases h:j<q
       ·rw [if_pos h,if_pos (by omega)]
       ·rw [if_neg h,if_neg (by omega)])
     have HF2:Hid (∀j,((w6.drewN n7).setCell ⟨tb,q,none⟩ (.int .u64 X)).frozen? ⟨tb,j,none⟩=false):=zy (fun j=>by
      have:=hff6.out j
      simpa using this)
     have hB2:Below tb wp ((w6.drewN n7).setCell ⟨tb,q,none⟩ (.int .u64 X)):=(below_drewN hS6 n7).setCell (Nat.le_refl tb) _
     clear hcc6 hff6 hc6 hf6 hix hPq hTq e0 ef
     go_wp2
     go_roundw
     case rel=>exact ⟨q+1,by go_num,by omega,HC2,HF2,hB2⟩
     case measure=>simp [intOf];omega
    ·obtain rfl:q=4:=by omega
     have t0:wr.cell? ⟨tb,0,none⟩=some (.int .u64 ((qt (zt p W) s F 0 k).val:Int)):=hc.out 0 (by omega)
     have t1:wr.cell? ⟨tb,1,none⟩=some (.int .u64 ((qt (zt p W) s F 1 k).val:Int)):=hc.out 1 (by omega)
     have t2:wr.cell? ⟨tb,2,none⟩=some (.int .u64 ((qt (zt p W) s F 2 k).val:Int)):=hc.out 2 (by omega)
     have t3:wr.cell? ⟨tb,3,none⟩=some (.int .u64 ((qt (zt p W) s F 3 k).val:Int)):=hc.out 3 (by omega)
     have hBf:=HBT.out wr (hB.trans (hBi.mono (by omega)))
     have HFd:Hid (∀n,Fd (wr.drewN n) w.heap.size v p g):=zy (fun n=>(HF.out.below hBf).drewN n)
     have hlp: ∀x:Fin p,0≤((x.val:Nat):Int)∧((x.val:Nat):Int)≤18446744073709551615:=fun x=>by have:=x.isLt;have:=HPM.out.2;omega
     have hAdd: ∀(x y:Fin p) n,Calls Tryz.prog 80 #[v, .int .u64 (x.val:Int), .int .u64 (y.val:Int)] (wr.drewN n) fun e w'=>e= .returned (.int .u64 ((x+y).val:Int))∧ ∃k,w'=(wr.drewN n).drewN k:=fun x y n=>by
      have h1:=zG9 (HFd.out n) (x.val:Int) (y.val:Int) (hlp x).1 (hlp x).2 (hlp y).1 (hlp y).2
      rw [zGt,zt_of_val,zt_of_val] at h1
      exact h1
     have hSub: ∀(x y:Fin p) n,Calls Tryz.prog 117 #[v, .int .u64 (x.val:Int), .int .u64 (y.val:Int)] (wr.drewN n) fun e w'=>e= .returned (.int .u64 ((x-y).val:Int))∧ ∃k,w'=(wr.drewN n).drewN k:=fun x y n=>by
      have h1:=zHL (HFd.out n) (x.val:Int) (y.val:Int) (hlp x).1 (hlp x).2 (hlp y).1 (hlp y).2
      rw [zGy,zt_of_val,zt_of_val] at h1
      exact h1
     have hTim: ∀(x:Fin p) n,Calls Tryz.prog 81 #[v, .int .u64 tw, .int .u64 (x.val:Int)] (wr.drewN n) fun e w'=>e= .returned (.int .u64 ((pw (zt p W) ms*x).val:Int))∧ ∃k,w'=(wr.drewN n).drewN k:=fun x n=>by
      have h1:=zHM (HFd.out n) (W^ms) (x.val:Int) (hlp x).1 (hlp x).2
      rw [zGv,zt_of_val,zt_pow,←HTW.out] at h1
      exact h1
     obtain ⟨a0,ha0⟩: ∃a0,a0=qt (zt p W) s F 0 k:=⟨_,rfl⟩
     obtain ⟨a1,ha1⟩: ∃a1,a1=qt (zt p W) s F 1 k:=⟨_,rfl⟩
     obtain ⟨a2,ha2⟩: ∃a2,a2=qt (zt p W) s F 2 k:=⟨_,rfl⟩
     obtain ⟨a3,ha3⟩: ∃a3,a3=qt (zt p W) s F 3 k:=⟨_,rfl⟩
     rw [←ha0] at t0
     rw [←ha1] at t1
     rw [←ha2] at t2
     rw [←ha3] at t3
     have HA:=zy hAdd
     have HS:=zy hSub
     have HM:=zy hTim
     have H0:=zy (And.intro (And.intro ha0 ha1) (And.intro ha2 ha3))
     clear hAdd hSub hTim ha0 ha1 ha2 ha3 hlp x0 x1 x2 x3 p0 p1 p2 p3'
     go_upto_region 13 with fail
     go_quiet ((first|(go_at_call 80;exact Calls.quiet_of (HA.out _ _ _))|(go_at_call 117;exact Calls.quiet_of (HS.out _ _ _))))
     go_upto_region 14 with fail
     go_quiet ((first|(go_at_call 80;exact zP5 (HA.out _ _ _))|(go_at_call 117;exact zP5 (HS.out _ _ _))|(go_at_call 81;exact zP5 (HM.out _ _))))
     go_upto_region 15 with fail
     have hown6:=(HO.out.below (show Below wp.heap.size wp wr by rw [←HTB.out];exact hBi))
     have hR0:R4 w1 w.heap.size G (4*m) v (qrow (zt p W) m s F k) wr:=⟨hB.trans (hBi.mono (by omega)),hown6,y0⟩
     have hRn:=fun n=>hR0.drewN n
     generalize hgw:World.drewN wr _=wq
     have hRq:R4 w1 w.heap.size G (4*m) v (qrow (zt p W) m s F k) wq:=hgw ▸ hRn _
     have hRq1:R4 w1 w.heap.size G (4*m) v (qrow (zt p W) m s F k) wq.drew:=hRq.drewN 1
     have zq:=hRq.2.2
     have hFz: ∀wz,R4 w1 w.heap.size G (4*m) v (qrow (zt p W) m s F k) wz→Fd wz w.heap.size v p g:=fun wz hz=>HF.out.below (HBT.out wz hz.1)
     have hlp: ∀x:Fin p,0≤((x.val:Nat):Int)∧((x.val:Nat):Int)≤18446744073709551615:=fun x=>by have:=x.isLt;have:=HPM.out.2;omega
     have HA4:Hid (∀(x y:Fin p) wz,R4 w1 w.heap.size G (4*m) v (qrow (zt p W) m s F k) wz→Calls Tryz.prog 80 #[v, .int .u64 (x.val:Int), .int .u64 (y.val:Int)] wz fun e w'=>e= .returned (.int .u64 ((x+y).val:Int))∧R4 w1 w.heap.size G (4*m) v (qrow (zt p W) m s F k) w'):=zy (fun x y wz hz=>by
      have h1:=zG9 (hFz wz hz) (x.val:Int) (y.val:Int) (hlp x).1 (hlp x).2 (hlp y).1 (hlp y).2
      rw [zGt,zt_of_val,zt_of_val] at h1
      exact h1.mono fun e w' ⟨he,n,hw⟩=>⟨he,hw ▸ hz.drewN n⟩)
     have HS4:Hid (∀(x y:Fin p) wz,R4 w1 w.heap.size G (4*m) v (qrow (zt p W) m s F k) wz→Calls Tryz.prog 117 #[v, .int .u64 (x.val:Int), .int .u64 (y.val:Int)] wz fun e w'=>e= .returned (.int .u64 ((x-y).val:Int))∧R4 w1 w.heap.size G (4*m) v (qrow (zt p W) m s F k) w'):=zy (fun x y wz hz=>by
      have h1:=zHL (hFz wz hz) (x.val:Int) (y.val:Int) (hlp x).1 (hlp x).2 (hlp y).1 (hlp y).2
      rw [zGy,zt_of_val,zt_of_val] at h1
      exact h1.mono fun e w' ⟨he,n,hw⟩=>⟨he,hw ▸ hz.drewN n⟩)
     have hQ0:Hid ((qf (zt p W) m s F k)=(a0+a2)+(a1+a3)∧(qf (zt p W) m s F (k+1*m))=(a0-a2)+pw (zt p W) ms*(a1-a3)∧(qf (zt p W) m s F (k+2*m))=(a0+a2)-(a1+a3)∧(qf (zt p W) m s F (k+3*m))=(a0-a2)-pw (zt p W) ms*(a1-a3)):=zy (by
      obtain ⟨⟨ha0,ha1⟩,ha2,ha3⟩:=H0.out
      have m0:=idx4 (r:=0) hlt
      have m1:=idx4 (r:=1) hlt
      have m2:=idx4 (r:=2) hlt
      have m3:=idx4 (r:=3) hlt
      rw [Nat.zero_mul,Nat.add_zero] at m0
      unfold qf
      rw [m0.1,m0.2,m1.1,m1.2,m2.1,m2.2,m3.1,m3.2,ha0,ha1,ha2,ha3,HMS.out]
      exact ⟨by rw [if_pos rfl],by rw [if_neg (by omega),if_pos rfl],by rw [if_neg (by omega),if_neg (by omega),if_pos rfl],by rw [if_neg (by omega),if_neg (by omega),if_neg (by omega)]⟩)
     have hstep:=zPz (Ω:=zt p W) (s:=s) (F:=F) hlt
     rw [hQ0.out.1,hQ0.out.2.1,hQ0.out.2.2.1,hQ0.out.2.2.2] at hstep
     obtain ⟨o1,ho1⟩: ∃o1,o1=k+m:=⟨_,rfl⟩
     obtain ⟨o2,ho2⟩: ∃o2,o2=k+2*m:=⟨_,rfl⟩
     obtain ⟨o3,ho3⟩: ∃o3,o3=k+3*m:=⟨_,rfl⟩
     obtain ⟨Lk,hLk⟩: ∃Lk,Lk=qrow (zt p W) m s F k:=⟨_,rfl⟩
     rw [←ho1,←ho2,←ho3,←hLk] at hstep
     rw [←hLk] at hRq hRq1 HA4 HS4
     have HST:=zy hstep
     have eo1:(k:Int)+(m:Int)=(o1:Int):=by omega
     have eo2:(k:Int)+2*(m:Int)=(o2:Int):=by omega
     have eo3:(k:Int)+3*(m:Int)=(o3:Int):=by omega
     have l0:k<4*m:=by omega
     have l1:o1<4*m:=by omega
     have l2:o2<4*m:=by omega
     have l3:o3<4*m:=by omega
     have d01:k≠o1:=by omega
     have d02:k≠o2:=by omega
     have d03:k≠o3:=by omega
     have d12:o1≠o2:=by omega
     have d13:o1≠o3:=by omega
     have d23:o2≠o3:=by omega
     have bG:w.heap.size≠G:=by have:=hGe.out;omega
     have bG':G≠w.heap.size:=Ne.symm bG
     have i0':(0:Int)≤(k:Int):=by omega
     have i1:(k:Int)<4*(m:Int):=by omega
     have i2:(0:Int)≤(o1:Int):=by omega
     have i3:(o1:Int)<4*(m:Int):=by omega
     have i4:(0:Int)≤(o2:Int):=by omega
     have i5:(o2:Int)<4*(m:Int):=by omega
     have i6:(0:Int)≤(o3:Int):=by omega
     have i7:(o3:Int)<4*(m:Int):=by omega
     have v1:IntKind.i64.wrap (o1:Int)=(o1:Int):=IntWalk.i64_in _ (by omega)
     have v2:IntKind.i64.wrap (2*(m:Int))=2*(m:Int):=IntWalk.i64_in _ (by omega)
     have v3:IntKind.i64.wrap (o2:Int)=(o2:Int):=IntWalk.i64_in _ (by omega)
     have v4:IntKind.i64.wrap (3*(m:Int))=3*(m:Int):=IntWalk.i64_in _ (by omega)
     have v5:IntKind.i64.wrap (o3:Int)=(o3:Int):=IntWalk.i64_in _ (by omega)
     clear hRn hR0 hgw hown6 hFz hlp HA HS HM hstep ho1 ho2 ho3 hLk t0 t1 t2 t3 y0 y1 b0 b1 hBf HFd H0 hQ0
     go_region_held3 (fun wz=>wz.cell? ⟨w.heap.size,0,none⟩=some v)
      (first|go_keep|assumption)
      ((first
      | (go_at_call 80;refine (HA4.out _ _ _ (by first|assumption|exact hRq.drewN _)).mono ?_;rintro r w8 ⟨rfl,hR8⟩;have zb:=hR8.2.2)
      | (go_at_call 117;refine (HS4.out _ _ _ (by assumption)).mono ?_;rintro r w8 ⟨rfl,hR8⟩;have zb:=hR8.2.2;have g0:=hR8.cell k l0;have g1:=hR8.cell o1 l1;have g2:=hR8.cell o2 l2;have g3:=hR8.cell o3 l3;have f0:=hR8.fz k l0;have f1:=hR8.fz o1 l1;have f2:=hR8.fz o2 l2;have f3:=hR8.fz o3 l3)))
     obtain ⟨hOw,hBw⟩:=hR8.set4 (by have:=hGe.out;omega) l0 l1 l2 l3 ((((a0+a2)+(a1+a3):Fin p).val:Int)) ((((a0-a2)+pw (zt p W) ms*(a1-a3):Fin p).val:Int)) ((((a0+a2)-(a1+a3):Fin p).val:Int)) ((((a0-a2)-pw (zt p W) ms*(a1-a3):Fin p).val:Int))
     rw [HST.out] at hOw
     have HOW:=zy hOw
     clear hOw v1 v2 v3 v4 v5 g0 g1 g2 g3 f0 f1 f2 f3 zb HA4 HS4 eo1 eo2 eo3
     go_wp2
     go_roundw
     case rel=>exact ⟨k+1,by go_num,by omega,HOW.out,hBw⟩
     case measure=>simp [intOf];omega
  ·obtain rfl:k=m:=by omega
   rw [zPx hm] at hown
   have HO:=zy (hown.mono (show w.heap.size≤G by have:=hGe.out;omega))
   have HB:=zy (HBT.out _ hB)
   clear hown
   go_wp2
   go_ret
   exact ⟨_,rfl,HO.out,HB.out⟩
end

section
open Alg
def Pow2 (n:Nat):Prop:= ∃k,n=2^k
theorem Pow2.cases {n:Nat} (h:Pow2 n):n=1∨n=2∨ ∃m,n=4*m∧Pow2 m∧0<m:=by
 obtain ⟨k,rfl⟩:=h
 match k with
 | 0=>exact .inl rfl
 | 1=>exact .inr (.inl rfl)
 | k+2=>exact .inr (.inr ⟨2^k,by rw [Nat.pow_succ,Nat.pow_succ];omega,⟨k,rfl⟩,Nat.pow_pos (by omega)⟩)
def zA8 {p:Nat} [NeZero p] (pb m:Nat) (F:Nat→Nat→Fin p) (w1:World) (q:Nat) (A:Nat→Option Addr) (C:Nat→Nat) (wr:World):Prop:=
 Below pb w1 wr∧pb<wr.heap.size∧(∀j,j<4→wr.cell? ⟨pb,j,none⟩=some (if j<q then .slice (A j) m (C j) else .slice none 0 0))∧(∀j,wr.frozen? ⟨pb,j,none⟩=false)∧(∀j,j<q→RdI wr wr.heap.size .u64 (A j) (lst m (F j))∧ ∀b o,A j=some ⟨b,o,none⟩→0<m→b≠pb)
theorem zA8.step {p:Nat} [NeZero p] {pb m q:Nat} {F:Nat→Nat→Fin p} {w1 wr w7:World} {A:Nat→Option Addr} {C:Nat→Nat} (h:zA8 pb m F w1 q A C wr) (hq:q<4) (hb:Below wr.heap.size wr w7) {A':Option Addr} {c':Nat}
  (hR:RdI w7 w7.heap.size .u64 A' (lst m (F q))) (hA: ∀b o,A'=some ⟨b,o,none⟩→0<m→b≠pb):
  zA8 pb m F w1 (q+1) (fun j=>if j=q then A' else A j) (fun j=>if j=q then c' else C j) (w7.setCell ⟨pb,q,none⟩ (.slice A' m c')):=by
 obtain ⟨h1,h2,h3,h4,h5⟩:=h
 have hs7:=hb.size
 have hc7: ∀j,j<4→w7.cell? ⟨pb,j,none⟩=some (if j<q then .slice (A j) m (C j) else .slice none 0 0):=fun j hj=>zDs hb h2 (h3 j hj)
 have hsz:(w7.setCell ⟨pb,q,none⟩ (.slice A' m c')).heap.size=w7.heap.size:=by simp [World.setCell]
 have keep: ∀(B:Option Addr) (L:List Int),RdI w7 w7.heap.size .u64 B L→(∀b o,B=some ⟨b,o,none⟩→0<L.length→b≠pb)→RdI (w7.setCell ⟨pb,q,none⟩ (.slice A' m c')) (w7.setCell ⟨pb,q,none⟩ (.slice A' m c')).heap.size .u64 B L:=fun B L hBL hne hl=>by
  obtain ⟨b,o,e,hlt,hc⟩:=hBL hl
  refine ⟨b,o,e,by rw [hsz];exact hlt,fun j hj=>?_⟩
  rw [World.cell?_setCell_other _ _ _ _ (fun hh=>hne b o e hl (by injection hh with hh _ _;exact hh.symm))]
  exact hc j hj
 refine ⟨(h1.trans (hb.mono (by omega))).setCell (Nat.le_refl pb) _,by rw [hsz];omega,fun j hj=>?_,fun j=>?_,fun j hj=>?_⟩
 ·by_cases e:j=q
  ·subst e
   rw [World.cell?_setCell_same _ _ _ (hc7 j hj),if_pos (by omega)];simp
  ·rw [World.cell?_setCell_other _ _ _ _ (fun hh=>e (by injection hh with _ hh _;exact hh.symm)),hc7 j hj]
   by_cases hjq:j<q
   ·rw [if_pos hjq,if_pos (by omega)];simp [e]
   ·rw [if_neg hjq,if_neg (by omega)]
 ·have:w7.frozen? ⟨pb,j,none⟩=false:=(hb.frozen (p:=⟨pb,j,none⟩) h2).trans (h4 j)
  simpa using this
 ·by_cases e:j=q
  ·subst e
   simp only [if_true]
   exact ⟨keep A' _ hR fun b o hb' hl=>hA b o hb' (by rw [zLb] at hl;exact hl),hA⟩
  ·simp only [e,if_false]
   exact ⟨keep (A j) _ (((h5 j (by omega)).1.below hb).mono hs7) fun b o hb' hl=>(h5 j (by omega)).2 b o hb' (by rw [zLb] at hl;exact hl),(h5 j (by omega)).2⟩
theorem zSw {p:Nat} [NeZero p] {v:Value} {g W:Int} (N cT:Nat) (AT:Option Addr) (hp:Prime p) (hΩ:Ord (zt p W) N) (hN4:N≤4096) (K:Nat):
  ∀(n s:Nat) (a:Nat→Fin p) (AL:Option Addr) (cL:Nat) (w:World),n<K→Pow2 n→n*s=N→Fd w w.heap.size v p g→
   RdI w w.heap.size .u64 AT (full N fun i=>lft p (W^i))→RdI w w.heap.size .u64 AL (lst n a)→
   Calls Tryz.prog 121 #[.agg #[v, .slice AT N cT], .slice AL n cL, .int .i64 s] w
    fun r w'=> ∃V,r= .returned V∧OwnU w' w.heap.size V n (lst n (dft (pw (zt p W) s) n a))∧Below w.heap.size w w':=by
 induction K with
 | zero=>intro n s a AL cL w h;omega
 | succ K ih=>
  intro n s a AL cL w hnK hn2 hns h hT hL
  have hN0:=hΩ.1
  have hs0:0<s:=by
   rcases Nat.eq_zero_or_pos s with e|e
   ·subst e;omega
   ·exact e
  have HPM:=zy (And.intro h.p3 h.pmx)
  have hB0:=(Below.refl w.heap.size w).alloc (Nat.le_refl _) (.cells #[v, .slice AT N cT] 163)
  have b0:(w.alloc (.cells #[v, .slice AT N cT] 163)).cell? ⟨w.heap.size,0,none⟩=some v:=World.cell?_alloc_at _ _ _ _ rfl
  have b1:(w.alloc (.cells #[v, .slice AT N cT] 163)).cell? ⟨w.heap.size,1,none⟩=some (.slice AT N cT):=World.cell?_alloc_at _ _ _ _ rfl
  have hsz:w.heap.size+1=(w.alloc (.cells #[v, .slice AT N cT] 163)).heap.size:=by simp
  obtain ⟨w1,hw1⟩: ∃w1,w1=w.alloc (.cells #[v, .slice AT N cT] 163):=⟨_,rfl⟩
  rw [←hw1] at hB0 b0 b1 hsz
  have HW1:=zy hw1
  have hsz':w.heap.size+1≤w1.heap.size:=by omega
  clear hw1 hsz
  have hlen:(lst n a).length=n:=zLb n a
  rcases hn2.cases with rfl|rfl|⟨m,rfl,hm2,hm0⟩
  ·
   have hC:=zy (zE4 AL cL (lst 1 a) w1 (by rw [hlen];omega) ((hL.below hB0).mono hB0.size))
   rw [hlen] at hC
   have he:lst 1 (dft (pw (zt p W) s) 1 a)=lst 1 a:=zKW fun i hi=>by rw [dft_one];congr 1;omega
   have HE:=zy he
   clear he hL hT h hlen hn2 hns
   go_enter Tryz.func121,Tryz.ntmps121
   go_wp2_with fail
   rw [←HW1.out]
   refine hC.out.mono ?_
   rintro r w2 ⟨V,rfl,hO,hB2⟩
   have HO:=zy hO
   clear hO
   go_wp2
   go_ret
   exact ⟨V,rfl,by rw [HE.out];exact HO.out.mono (by omega),hB0.trans (hB2.mono (by omega))⟩
  ·
   obtain ⟨b,o,rfl,hb,hc⟩:=hL (by rw [hlen];omega)
   have d0:=zDs hB0 hb (hc 0 (by rw [hlen];omega))
   have d1:=zDs hB0 hb (hc 1 (by rw [hlen];omega))
   rw [zKY (by omega)] at d0 d1
   rw [Nat.add_zero] at d0
   have hm1:pw (zt p W) s= -1:=zIN hp hΩ (by omega)
   obtain ⟨e0,e1⟩:=zF5 hm1 a
   have HE:Hid (lst 2 (dft (pw (zt p W) s) 2 a)= [((a 0+a 1:Fin p).val:Int),((a 0-a 1:Fin p).val:Int)]):=zy (by
    show [((dft (pw (zt p W) s) 2 a 0).val:Int),((dft (pw (zt p W) s) 2 a 1).val:Int)]=_
    rw [e0,e1])
   have hlp: ∀x:Fin p,0≤((x.val:Nat):Int)∧((x.val:Nat):Int)≤18446744073709551615:=fun x=>by have:=x.isLt;have:=HPM.out.2;omega
   have hF1:=h.below hB0
   have HA:Hid (∀n,Calls Tryz.prog 80 #[v, .int .u64 ((a 0).val:Int), .int .u64 ((a 1).val:Int)] (w1.drewN n) fun e w'=>e= .returned (.int .u64 ((a 0+a 1).val:Int))∧ ∃k,w'=(w1.drewN n).drewN k):=zy (fun n=>by
    have h1:=zG9 (hF1.drewN n) ((a 0).val:Int) ((a 1).val:Int) (hlp _).1 (hlp _).2 (hlp _).1 (hlp _).2
    rw [zGt,zt_of_val,zt_of_val] at h1
    exact h1)
   have HS:Hid (∀n,Calls Tryz.prog 117 #[v, .int .u64 ((a 0).val:Int), .int .u64 ((a 1).val:Int)] (w1.drewN n) fun e w'=>e= .returned (.int .u64 ((a 0-a 1).val:Int))∧ ∃k,w'=(w1.drewN n).drewN k):=zy (fun n=>by
    have h1:=zHL (hF1.drewN n) ((a 0).val:Int) ((a 1).val:Int) (hlp _).1 (hlp _).2 (hlp _).1 (hlp _).2
    rw [zGy,zt_of_val,zt_of_val] at h1
    exact h1)
   clear hc hL hT h hlp hF1 hlen e0 e1 hm1 hn2 hns
   go_enter Tryz.func121,Tryz.ntmps121
   go_upto_region 5 with fail
   rw [←HW1.out]
   refine zWM 18 (by kernel_rfl) (by kernel_rfl) ?_
   simp only [List.take_succ_cons,List.take_zero,List.drop_succ_cons,List.drop_zero]
   repeat (go_big_quiet_step ((first|(go_at_call 80;exact Calls.quiet_of (HA.out _))|(go_at_call 117;exact Calls.quiet_of (HS.out _)))))
   refine wpQuiet_nil ?_
   intro _ hw'
   obtain ⟨nq,hw''⟩:=hw'
   subst hw''
   go_wp2
   go_ret
   have hBq:=below_drewN hB0 nq
   refine ⟨_,rfl,?_,hBq.alloc hBq.size _⟩
   rw [HE.out]
   exact World.ownsRow_lit _ #[.int .u64 ((a 0+a 1:Fin p).val:Int), .int .u64 ((a 0-a 1:Fin p).val:Int)] 2 hBq.size (by unfold maxLen;omega) rfl
  ·
   have hN:N=4*m*s:=hns.symm
   have hmle:4*m≤N:=by rw [hN];exact Nat.le_mul_of_pos_right _ hs0
   have h1a:(4*m == 1)=false:=by simp;omega
   have hEv:Hid (∀(q:Nat),q<4→ ∀wz,Below w.heap.size w wz→Calls Tryz.prog 171 #[.slice AL (4*m) cL, .int .i64 q] wz fun r w'=> ∃V,r= .returned V∧OwnU w' wz.heap.size V m (lst m (fun j=>a (q+4*j)))∧Below wz.heap.size wz w'):=zy (fun q hq wz hz=>by
    have h1:=zGz AL cL q m (lst (4*m) a) wz hq (zLb _ _) (by rw [zLb];omega) ((hL.below hz).mono hz.size)
    rw [zLb] at h1
    have h2:zHA (lst (4*m) a) q m=lst m (fun j=>a (q+4*j)):=zHQ fun j hj=>by rw [zKY (by omega)]
    rw [h2] at h1
    exact h1)
   have hRu:Hid (∀(q:Nat) (wz:World) (V:Value) (B:Nat),q<4→Below w.heap.size w wz→OwnU wz B V m (lst m (fun j=>a (q+4*j)))→Calls Tryz.prog 121 #[.agg #[v, .slice AT N cT],V, .int .i64 ((4*s:Nat):Int)] wz fun r w'=> ∃V' A' c',r= .returned V'∧V'= .slice A' m c'∧RdI w' w'.heap.size .u64 A' (lst m (dft (pw (zt p W) (4*s)) m (fun j=>a (q+4*j))))∧(∀b o,A'=some ⟨b,o,none⟩→0<m→wz.heap.size≤b)∧Below wz.heap.size wz w'):=zy (fun q wz V B hq hz hV=>by
    obtain ⟨A2,c2,rfl,hR2⟩:=hV.rd
    refine (ih m (4*s) (fun j=>a (q+4*j)) A2 c2 wz (by omega) hm2 (by rw [hN,Nat.mul_left_comm,←Nat.mul_assoc]) ((h.below hz).mono hz.size) ((hT.below hz).mono hz.size) hR2).mono ?_
    rintro r w' ⟨V',hr,hO,hB⟩
    obtain ⟨A',c',hV',hR'⟩:=hO.rd
    refine ⟨V',A',c',hr,hV',hR',fun b o hb hm=>?_,hB⟩
    rcases hO.2 with ⟨_,h0⟩|⟨gb,cap,cur,e,h1,_⟩
    ·omega
    ·rw [hV',hb] at e
     injection e with e _ _
     injection e with e
     injection e with e _ _
     omega)
   have hQu:Hid (∀wz (A:Nat→Option Addr) (C:Nat→Nat),Below w.heap.size w wz→(∀q,q<4→RdI wz wz.heap.size .u64 (A q) (lst m (dft (pw (zt p W) (4*s)) m (fun j=>a (q+4*j)))))→
     Calls Tryz.prog 172 #[.agg #[v, .slice AT N cT], .agg #[.slice (A 0) m (C 0), .slice (A 1) m (C 1), .slice (A 2) m (C 2), .slice (A 3) m (C 3)], .int .i64 s] wz
      fun r w'=> ∃V,r= .returned V∧OwnU w' wz.heap.size V (4*m) (lst (4*m) (dft (pw (zt p W) s) (4*m) a))∧Below wz.heap.size wz w'):=zy (fun wz A C hz hR=>by
    have h1:=zP1 ((h.below hz).mono hz.size) m s N AT cT A C (fun q k=>dft (pw (zt p W) (4*s)) m (fun j=>a (q+4*j)) k) hm0 hs0 hN hN4 hΩ.2.1 ((hT.below hz).mono hz.size) hR
    have h2:lst (4*m) (qf (zt p W) m s (fun q k=>dft (pw (zt p W) (4*s)) m (fun j=>a (q+4*j)) k))=lst (4*m) (dft (pw (zt p W) s) (4*m) a):=zKW fun i hi=>by
     rw [zP2 hp (hN ▸ hΩ) a i hi hm0 (t:=qt (zt p W) s (fun q k=>dft (pw (zt p W) (4*s)) m (fun j=>a (q+4*j)) k)) (fun q k _ _=>rfl)]
     rfl
    rw [h2] at h1
    exact h1)
   have hm4:m≤1024:=by omega
   have hs4:s≤1024:=by
    have:4*s≤N:=by rw [hN,Nat.mul_assoc,Nat.mul_comm m s,←Nat.mul_assoc];exact Nat.le_mul_of_pos_right _ hm0
    omega
   have e4s:4*(s:Int)=((4*s:Nat):Int):=by omega
   have t1:((4*(m:Int)) == 1)=false:=by simp;omega
   have t2:((4*(m:Int)) == 2)=false:=by simp;omega
   clear hL hT h hlen hn2 hns ih hN hmle h1a e4s
   go_enter Tryz.func121,Tryz.ntmps121
   go_upto_region 7 with fail
   rw [←HW1.out]
   have hP0:zA8 w1.heap.size m (fun q k=>dft (pw (zt p W) (4*s)) m (fun j=>a (q+4*j)) k) w1 0 (fun _=>none) (fun _=>0) (w1.alloc (.cells #[.slice none 0 0, .slice none 0 0, .slice none 0 0, .slice none 0 0] 210)):=
    ⟨(Below.refl _ _).alloc (Nat.le_refl _) _,by simp,fun j hj=>by
     rw [if_neg (by omega),World.cell?_alloc_at _ _ _ _ rfl]
     rcases (show j=0∨j=1∨j=2∨j=3 by omega) with rfl|rfl|rfl|rfl <;> rfl,fun j=>World.frozen?_alloc_at _ _ _ _ rfl,fun j hj=>by omega⟩
   obtain ⟨Fq,hFq⟩: ∃Fq:Nat→Nat→Fin p,Fq=fun q k=>dft (pw (zt p W) (4*s)) m (fun j=>a (q+4*j)) k:=⟨_,rfl⟩
   have hRu':Hid (∀(q:Nat) (wz:World) (V:Value) (B:Nat),q<4→Below w.heap.size w wz→OwnU wz B V m (lst m (fun j=>a (q+4*j)))→Calls Tryz.prog 121 #[.agg #[v, .slice AT N cT],V, .int .i64 ((4*s:Nat):Int)] wz fun r w'=> ∃V' A' c',r= .returned V'∧V'= .slice A' m c'∧RdI w' w'.heap.size .u64 A' (lst m (Fq q))∧(∀b o,A'=some ⟨b,o,none⟩→0<m→wz.heap.size≤b)∧Below wz.heap.size wz w'):=by rw [hFq];exact hRu
   have hQu':Hid (∀wz (A:Nat→Option Addr) (C:Nat→Nat),Below w.heap.size w wz→(∀q,q<4→RdI wz wz.heap.size .u64 (A q) (lst m (Fq q)))→
     Calls Tryz.prog 172 #[.agg #[v, .slice AT N cT], .agg #[.slice (A 0) m (C 0), .slice (A 1) m (C 1), .slice (A 2) m (C 2), .slice (A 3) m (C 3)], .int .i64 s] wz
      fun r w'=> ∃V,r= .returned V∧OwnU w' wz.heap.size V (4*m) (lst (4*m) (dft (pw (zt p W) s) (4*m) a))∧Below wz.heap.size wz w'):=by rw [hFq];exact hQu
   rw [←hFq] at hP0
   have HP0:=zy hP0
   obtain ⟨s4,hs4e⟩: ∃s4:Nat,s4=4*s:=⟨_,rfl⟩
   have e4s:4*(s:Int)=(s4:Int):=by omega
   have hs4b:s4≤4096:=by omega
   rw [←hs4e] at hRu'
   clear hFq hRu hQu hP0 hs4e
   generalize w1.alloc (.cells #[.slice none 0 0, .slice none 0 0, .slice none 0 0, .slice none 0 0] 210)=w2 at *
   obtain ⟨pb,hpb⟩: ∃pb,pb=w1.heap.size:=⟨_,rfl⟩
   rw [←hpb] at HP0
   have hpe:w.heap.size+1=pb:=by
    have h1:(w.alloc (.cells #[v, .slice AT N cT] 163)).heap.size=w.heap.size+1:=by simp
    rw [hpb,HW1.out,h1]
   rw [hpe]
   have hpl:w.heap.size<pb:=by omega
   clear hpb hpe
   go_wp2
   go_loopw [39] (fun I wr=> ∃(q:Nat) (A:Nat→Option Addr) (C:Nat→Nat),I= .int .i64 q∧q≤4∧Hid (zA8 pb m Fq w1 q A C wr)) (fun I _=>4-(intOf I).toNat)
   case atStart=>exact ⟨0,_,_,rfl,by omega,HP0⟩
   case round=>
    clear HP0
    obtain ⟨q,A,C,rfl,hq4,hP⟩:=hrel
    have hw1:Below pb w1 wr:=hP.out.1
    have hpw:pb<wr.heap.size:=hP.out.2.1
    have hw:Below w.heap.size w wr:=hB0.trans (hw1.mono (by omega))
    have y0:=zDs hw1 hpl b0
    have y1:=zDs hw1 hpl b1
    by_cases hq:q<4
    ·have e0:wr.cell? ⟨pb,q,none⟩=some (.slice none 0 0):=by
      have:=hP.out.2.2.1 q hq
      rwa [if_neg (by omega)] at this
     have ef:wr.frozen? ⟨pb,q,none⟩=false:=hP.out.2.2.2.1 q
     have hq0:(0:Int)≤(q:Int):=by omega
     have hq44:(q:Int)<4:=by omega
     have n3:pb≠w.heap.size:=by omega
     have n4:w.heap.size≠pb:=by omega
     have v1:IntKind.i64.wrap (s4:Int)=(s4:Int):=IntWalk.i64_in _ (by omega)
     go_upto_region 10 with fail
     go_region_held3 (fun wz=>wz.cell? ⟨w.heap.size,0,none⟩=some v∧wz.cell? ⟨w.heap.size,1,none⟩=some (.slice AT N cT))
      (first|go_keep|(refine ⟨?_,?_⟩ <;> first|assumption|go_keep))
      ((first
      | (go_at_call 171;refine (hEv.out q hq _ (below_drewN hw 1)).mono ?_;rintro r w6 ⟨V,rfl,hV,hB6⟩;have hB6':=(below_drewN (Below.refl wr.heap.size wr) 1).trans hB6;have hw6:=hw.trans (hB6'.mono hw.size);have z0:=zDs hB6' (show w.heap.size<wr.heap.size by omega) y0;have z1:=zDs hB6' (show w.heap.size<wr.heap.size by omega) y1)
      | (go_at_call 121;refine (hRu'.out q _ _ _ hq hw6 hV).mono ?_;rintro r w7 ⟨V',A',c',rfl,rfl,hR7,hb7,hB7⟩;have hB67:=hB6'.trans (hB7.mono hB6'.size);have x0:=zDs hB67 (show w.heap.size<wr.heap.size by omega) y0;have x1:=zDs hB67 (show w.heap.size<wr.heap.size by omega) y1;have g0:=zDs hB67 hpw e0;have f0:=(hB67.frozen (p:=⟨pb,q,none⟩) hpw).trans ef)))
     have hP2:=zy (hP.out.step (c':=c') hq hB67 hR7 (fun b o hb hm=>by have:=hb7 b o hb hm;have:=hB6'.size;omega))
     clear hP g0 f0 x0 x1 z0 z1
     go_wp2
     go_roundw
     case rel=>exact ⟨q+1,_,_,by go_num,by omega,hP2⟩
     case measure=>simp [intOf];omega
    ·obtain rfl:q=4:=by omega
     have hc:=fun j hj=>hP.out.2.2.1 j hj
     have c0:wr.cell? ⟨pb,0,none⟩=some (.slice (A 0) m (C 0)):=hc 0 (by omega)
     have c1:wr.cell? ⟨pb,1,none⟩=some (.slice (A 1) m (C 1)):=hc 1 (by omega)
     have c2:wr.cell? ⟨pb,2,none⟩=some (.slice (A 2) m (C 2)):=hc 2 (by omega)
     have c3:wr.cell? ⟨pb,3,none⟩=some (.slice (A 3) m (C 3)):=hc 3 (by omega)
     have hQ:=zy (hQu'.out wr A C hw (fun q hq=>(hP.out.2.2.2.2 q hq).1))
     clear hc hP
     go_wp2_with fail
     refine hQ.out.mono ?_
     rintro r w3 ⟨V,rfl,hO,hB3⟩
     have HO:=zy (hO.mono hw.size)
     have HB:=zy (hw.trans (hB3.mono hw.size))
     clear hO
     go_wp2
     go_ret
     exact ⟨_,rfl,HO.out,HB.out⟩
end
end Go.Proofs.YtmalmijdjhkklaaGreat
