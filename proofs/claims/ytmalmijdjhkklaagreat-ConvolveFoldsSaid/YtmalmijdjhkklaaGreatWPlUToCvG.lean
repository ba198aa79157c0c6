/- plan.Run. -/
import Derived.Test.YtmalmijdjhkklaaGreatWMixCToCopD
import Derived.Test.YtmalmijdjhkklaaGreatWPlPToPlT
import Derived.Test.YtmalmijdjhkklaaGreatRaR
import Derived.Test.YtmalmijdjhkklaaGreatChR
import Derived.Test.YtmalmijdjhkklaaGreatRad4F
import Derived.Test.YtmalmijdjhkklaaGreatWR2UR2DDfR
import Derived.Test.YtmalmijdjhkklaaGreatWLinToLinN
import Derived.Test.YtmalmijdjhkklaaGreatWAl5Sm17
import Derived.Test.YtmalmijdjhkklaaGreatWContToSame21
set_option linter.unusedVariables false
set_option linter.unusedSimpArgs false
set_option linter.unusedSectionVars false
namespace Go.Proofs.YtmalmijdjhkklaaGreat
section
/- plan.Run. -/
open Go.RowKit
open Alg
def RunQ (p:Nat) [NeZero p] (g:Int) (L:List Int) (inv:Bool) (er:Int) (B:Nat) (V:Value) (w':World):Prop:=
 (er=0∧OwnU w' B V L.length (lst L.length (tr (zt p g) L.length inv (rz p L))))∨(er≠0∧V= .slice none 0 0)
theorem RunQ.mono {p:Nat} [NeZero p] {g:Int} {L:List Int} {inv:Bool} {er:Int} {B B':Nat} {V:Value} {w':World} (h:RunQ p g L inv er B V w') (hb:B'≤B):RunQ p g L inv er B' V w':=h.imp (fun h=>⟨h.1,h.2.mono hb⟩) id
def zI4 (p:Int) (L:List Int):Int:=if zI1 p L=false then 9 else 0
def CalP (p:Nat) [NeZero p] (g:Int) (L:List Int) (inv:Bool) (F:FuncId) (args:Array Value) (w:World):Prop:=
 Calls Tryz.prog F args w fun e w'=> ∃V,e= .returned (.tuple #[V, .int .i64 (zI4 p L)])∧RunQ p g L inv (zI4 p L) w.heap.size V w'∧Below w.heap.size w w'
theorem zCU {p:Nat} [NeZero p] {g:Int} {L:List Int} {inv:Bool} {F:FuncId} {args:Array Value} {w:World} {f:Int} (hf:f=zI4 p L)
  (hy:f=0→Calls Tryz.prog F args w fun e w'=> ∃V,e= .returned (.tuple #[V, .int .i64 0])∧OwnU w' w.heap.size V L.length (lst L.length (tr (zt p g) L.length inv (rz p L)))∧Below w.heap.size w w')
  (hn:f≠0→Calls Tryz.prog F args w fun e w'=>e= .returned (.tuple #[.slice none 0 0, .int .i64 f])∧Below w.heap.size w w'):CalP p g L inv F args w:=by
 unfold CalP
 by_cases h0:f=0
 ·refine (hy h0).mono ?_
  rintro e w' ⟨V,he,ho,hb⟩
  exact ⟨V,by rw [←hf,h0];exact he, .inl ⟨by rw [←hf];exact h0,ho⟩,hb⟩
 ·refine (hn h0).mono ?_
  rintro e w' ⟨he,hb⟩
  exact ⟨_,by rw [←hf];exact he, .inr ⟨by rw [←hf];exact h0,rfl⟩,hb⟩
theorem zSW {P:Program} {F:FuncId} {args:Array Value} {w:World} {x:Ending} (h:Calls P F args w fun e w'=>e=x∧w=w'):Calls P F args w fun e w'=>e=x∧Below w.heap.size w w':=
 h.mono fun e w' ⟨he,hw⟩=>⟨he,hw ▸ Below.refl _ _⟩
theorem zCX {p:Nat} [NeZero p] {w:World} {v:Value} {g:Int} (hp:Prime p) (hg:Ord (zt p g) (p-1)) (g0:0≤g) (g1:g<p) (h:Fd w w.heap.size v p g) (A:Option Addr) (c:Nat) (L:List Int) (inv:Bool) (hU:U64s L) (hR:RdI w w.heap.size .u64 A L) (hl:L.length≤140737488351232) (hc:chk p L.length 1024=0):CalP p g L inv 69 #[v, .slice A L.length c, .bool inv] w:=
 zCU (f:=zGB p L) (by unfold zGB zI4;rw [if_neg (by simp [hc])]) (fun hf=>zF2 hp hg g0 g1 h A c L inv hU hR hf) (fun hf=>zSW (zF1 h A c L inv hl hU hR hf))
theorem zCY {p:Nat} [NeZero p] {w:World} {v:Value} {g:Int} (hp:Prime p) (hg:Ord (zt p g) (p-1)) (g0:0≤g) (g1:g<p) (h:Fd w w.heap.size v p g) (A:Option Addr) (c:Nat) (L:List Int) (inv:Bool) (hU:U64s L) (hR:RdI w w.heap.size .u64 A L) (hl:L.length≤140737488351232) (hc:chk p L.length 1024=0) (h2:p2 L.length=true):CalP p g L inv 63 #[v, .slice A L.length c, .bool inv] w:=
 zCU (f:=zGD p L) (by unfold zGD zI4;rw [if_neg (by simp [zEp hc]),if_neg (by simp [h2])]) (fun hf=>zFT hp hg g0 g1 h A c L inv hU hR hf) (fun hf=>zSW (zFS h A c L inv hl hU hR hf))
theorem zCZ {p:Nat} [NeZero p] {w:World} {v:Value} {g:Int} (hp:Prime p) (hg:Ord (zt p g) (p-1)) (g0:0≤g) (g1:g<p) (h:Fd w w.heap.size v p g) (A:Option Addr) (c:Nat) (L:List Int) (inv:Bool) (hU:U64s L) (hR:RdI w w.heap.size .u64 A L) (hl:L.length≤140737488351232) (hc:chk p L.length 1024=0) (h2:p2 L.length=true):CalP p g L inv 64 #[v, .slice A L.length c, .bool inv] w:=
 zCU (f:=zGD p L) (by unfold zGD zI4;rw [if_neg (by simp [zEp hc]),if_neg (by simp [h2])]) (fun hf=>zQ6 hp hg g0 g1 h A c L inv hU hR hf) (fun hf=>zSW (zQ5 h A c L inv hl hU hR hf))
theorem zDa {p:Nat} [NeZero p] {w:World} {v:Value} {g:Int} (hp:Prime p) (hg:Ord (zt p g) (p-1)) (g0:0≤g) (g1:g<p) (h:Fd w w.heap.size v p g) (A:Option Addr) (c:Nat) (L:List Int) (inv:Bool) (hU:U64s L) (hR:RdI w w.heap.size .u64 A L) (hl:L.length≤140737488351232) (hc:chk p L.length 1024=0) (h2:zQD L.length=true):CalP p g L inv 65 #[v, .slice A L.length c, .bool inv] w:=
 zCU (f:=zGN p L) (by unfold zGN zI4;rw [if_neg (by simp [hc]),if_neg (by simp [h2])]) (fun hf=>zL9 hp hg g0 g1 h A c L inv hU hR hf) (fun hf=>(zL8 h A c L inv hl hU hR hf))
theorem zCW {p:Nat} [NeZero p] {w:World} {v:Value} {g:Int} (hp:Prime p) (hg:Ord (zt p g) (p-1)) (g0:0≤g) (g1:g<p) (h:Fd w w.heap.size v p g) (A:Option Addr) (c:Nat) (L:List Int) (inv:Bool) (hU:U64s L) (hR:RdI w w.heap.size .u64 A L) (a:Int) (a0: -9223372036854775808≤a) (a1:a≤9223372036854775807) (hl:L.length≤140737488351232) (hc:chk p L.length 1024=0) (h2:copB L.length a=true):CalP p g L inv 66 #[v, .slice A L.length c, .int .i64 a, .bool inv] w:=
 zCU (f:=zGL p L a) (by unfold zGL zI4;rw [if_neg (by simp [hc]),if_neg (by simp [h2])]) (fun hf=>zEI hp hg g0 g1 h A c L a inv hU hR hf) (fun hf=>(zEH h A c L a a0 a1 inv hl hU hR hf))
theorem zDb {p:Nat} [NeZero p] {w:World} {v:Value} {g:Int} (hp:Prime p) (hg:Ord (zt p g) (p-1)) (g0:0≤g) (g1:g<p) (h:Fd w w.heap.size v p g) (A:Option Addr) (c:Nat) (L:List Int) (inv:Bool) (hU:U64s L) (hR:RdI w w.heap.size .u64 A L) (hl:L.length≤140737488351232) (hc:chk p L.length 1024=0) (h2:fitR (rpad L.length) p=true):CalP p g L inv 67 #[v, .slice A L.length c, .bool inv] w:=
 zCU (f:=zGP (rpad L.length) p L) (by unfold zGP zI4;rw [if_neg (by simp [hc]),if_neg (by simp [h2])]) (fun hf=>zRn hp hg g0 g1 h A c L inv hU hR hf) (fun hf=>(zRm h A c L inv hl hU hR hf))
theorem zCV {p:Nat} [NeZero p] {w:World} {v:Value} {g:Int} (hp:Prime p) (hg:Ord (zt p g) (p-1)) (g0:0≤g) (g1:g<p) (h:Fd w w.heap.size v p g) (A:Option Addr) (c:Nat) (L:List Int) (inv:Bool) (hU:U64s L) (hR:RdI w w.heap.size .u64 A L) (hl:L.length≤140737488351232) (hc:chk p L.length 1024=0) (h2:fitR (cpad L.length) p=true):CalP p g L inv 68 #[v, .slice A L.length c, .bool inv] w:=
 zCU (f:=zGP (cpad L.length) p L) (by unfold zGP zI4;rw [if_neg (by simp [hc]),if_neg (by simp [h2])]) (fun hf=>zEy hp hg g0 g1 h A c L inv hU hR hf) (fun hf=>(zEx h A c L inv hl hU hR hf))
noncomputable def errP (p K N M:Int) (L:List Int):Int:=if (L.length:Int)≠N∨N<1 then 1 else if fitI p K N M≠0 then fitI p K N M else zI4 p L
theorem zHg {p K N M:Int} (h:fitI p K N M=0):chk p N 1024=0:=by
 unfold fitI at h
 split at h
 ·rename_i h1;exact absurd h h1
 ·rename_i h1;simpa using h1
theorem zHf {p K N M:Int} (h:fitI p K N M=0):canB K N M=true:=by
 unfold fitI at h
 split at h
 ·rename_i h1;exact absurd h h1
 ·split at h
  ·omega
  ·rename_i h2
   cases hc:canB K N M with
   | true=>rfl
   | false=>exact absurd (.inl hc) h2
theorem zHl {p K N M:Int} (h:fitI p K N M=0) (hK:5≤K):fitR M p=true:=by
 unfold fitI at h
 split at h
 ·rename_i h1;exact absurd h h1
 ·split at h
  ·omega
  ·rename_i h2
   cases hc:fitR M p with
   | true=>rfl
   | false=>exact absurd (.inr ⟨hK,hc⟩) h2
set_option maxHeartbeats 8000000 in
set_option maxRecDepth 100000 in
theorem zPr {p:Nat} [NeZero p] {w:World} {v:Value} {g:Int} (hp:Prime p) (hg:Ord (zt p g) (p-1)) (g0:0≤g) (g1:g<p) (h:Fd w w.heap.size v p g) (A:Option Addr) (c:Nat) (L:List Int) (inv:Bool) (hU:U64s L) (hR:RdI w w.heap.size .u64 A L) (K N M:Int) (k0: -9223372036854775808≤K) (k1:K≤9223372036854775807) (n0: -9223372036854775808≤N) (n1:N≤9223372036854775807) (a0: -9223372036854775808≤M) (a1:M≤9223372036854775807) (hl:L.length≤140737488351232):
  Calls Tryz.prog 27 #[v, .agg #[.int .i64 K, .int .i64 N, .int .i64 M], .slice A L.length c, .bool inv] w fun e w'=> ∃V,e= .returned (.tuple #[V, .int .i64 (errP p K N M L)])∧RunQ p g L inv (errP p K N M L) w.heap.size V w'∧Below w.heap.size w w':=by
 obtain ⟨fb,rfl⟩: ∃fb,v= .pointer (some ⟨fb,0,none⟩):=by
  obtain ⟨b,c,t,o,s,sv,hv,_⟩:=h
  exact ⟨b,hv⟩
 have HFd:=Lib.hid h
 have HR:=Lib.hid hR
 have R1:=Lib.hid (lay1 w 36 #[.int .i64 K, .int .i64 N, .int .i64 M])
 have HF:=Lib.hid (fun wz (hz:Below w.heap.size w wz)=>zOe ((h.below hz).mono hz.size) K N M k0 k1 n0 n1 a0 a1)
 by_cases hLN:(L.length:Int)≠N∨N<1
 ·have he:Hid (errP p K N M L=1):=Lib.hid (by unfold errP;rw [if_pos hLN])
  have hQ:Hid (∀wz,RunQ p g L inv 1 w.heap.size (.slice none 0 0) wz):=Lib.hid (fun wz=> .inr ⟨by decide,rfl⟩)
  rw [he.out]
  obtain ⟨ft,hft⟩: ∃ft,ft=fitI p K N M:=⟨_,rfl⟩
  rw [←hft] at HF
  by_cases h1:(L.length:Int)=N
  ·have t1:((L.length:Int) != N)=false:=by simpa using h1
   have t2:decide (N<1)=true:=decide_eq_true (by omega)
   clear h hR hft hLN h1 he
   go_enter Tryz.func27,Tryz.ntmps27
   go_wp2_with (refine wpList_load_row rfl _ _ rfl _ rfl _ _ _ _ (R1.out.1) Tryz.underlying36 rfl (by exact zT5) ?_)
   refine (HF.out _ R1.out.2).mono ?_
   rintro e w2 ⟨rfl,hB2⟩
   have d1:=(R1.out.1.keep hB2).cell (i:=1) (v:= .int .i64 N) rfl
   have HB:=Lib.hid (R1.out.2.trans (hB2.mono R1.out.2.size))
   clear hB2
   go_wp2
   go_ret2
   exact ⟨_,rfl,hQ.out _,HB.out⟩
  ·have t1:((L.length:Int) != N)=true:=by simpa using h1
   clear h hR hft hLN h1 he
   go_enter Tryz.func27,Tryz.ntmps27
   go_wp2_with (refine wpList_load_row rfl _ _ rfl _ rfl _ _ _ _ (R1.out.1) Tryz.underlying36 rfl (by exact zT5) ?_)
   refine (HF.out _ R1.out.2).mono ?_
   rintro e w2 ⟨rfl,hB2⟩
   have d1:=(R1.out.1.keep hB2).cell (i:=1) (v:= .int .i64 N) rfl
   have HB:=Lib.hid (R1.out.2.trans (hB2.mono R1.out.2.size))
   clear hB2
   go_wp2
   go_ret2
   exact ⟨_,rfl,hQ.out _,HB.out⟩
 ·obtain ⟨n,hn⟩: ∃n,n=L.length:=⟨_,rfl⟩
  obtain rfl:N=(n:Int):=by omega
  have t1:((n:Int) != (n:Int))=false:=by simp
  have t2:decide ((n:Int)<1)=false:=decide_eq_false (by omega)
  have t2b:decide (n<1)=false:=decide_eq_false (by omega)
  by_cases hft:fitI p K n M=0
  ·have he:errP p K n M L=zI4 p L:=by unfold errP;rw [if_neg hLN,if_neg (by simp [hft])]
   rw [hft] at HF
   rw [he]
   have hc:=zHg hft
   have hcan:=zHf hft
   have hKr:=zDd hcan
   have hc2:=hcan
   rw [zDg (zDe hcan)] at hc2
   have hcL:chk p L.length 1024=0:=by rw [←hn];exact hc
   have HC2:=Lib.hid hc2
   have HFt:=Lib.hid hft
   have HcL:=Lib.hid hcL
   rw [←hn]
   clear hc2 hft hcL hcan hc he hLN
   rcases (show K=0∨K=1∨K=2∨K=3∨K=4∨K=5∨K=6 by omega) with hK|hK|hK|hK|hK|hK|hK
   ·have t1:(K == 1)=false:=by simp;omega
    have t2:(K == 2)=false:=by simp;omega
    have t3:(K == 3)=false:=by simp;omega
    have t4:(K == 4)=false:=by simp;omega
    have t5:(K == 5)=false:=by simp;omega
    have t6:(K == 6)=false:=by simp;omega
    have HC:=Lib.hid (fun (wz:World) (hz:Below w.heap.size w wz)=>zCX hp hg g0 g1 ((HFd.out.below hz).mono hz.size) A c L inv hU ((HR.out.below hz).mono hz.size) hl HcL.out)
    unfold CalP at HC
    rw [←hn] at HC
    clear hK h hR hKr HC2 HFt HcL hn hl
    go_enter Tryz.func27,Tryz.ntmps27
    go_wp2_with (refine wpList_load_row rfl _ _ rfl _ rfl _ _ _ _ (R1.out.1) Tryz.underlying36 rfl (by exact zT5) ?_)
    refine (HF.out _ R1.out.2).mono ?_
    rintro e w2 ⟨rfl,hB2⟩
    have R2:=Lib.hid (And.intro (R1.out.1.keep hB2) (R1.out.2.trans (hB2.mono R1.out.2.size)))
    clear hB2
    have d0:=R2.out.1.cell (i:=0) (v:= .int .i64 K) rfl
    have d1:=R2.out.1.cell (i:=1) (v:= .int .i64 (n:Int)) rfl
    have d2:=R2.out.1.cell (i:=2) (v:= .int .i64 M) rfl
    go_wp2_with fail
    refine (HC.out w2 R2.out.2).mono ?_
    rintro e w3 ⟨V,rfl,hQ,hB3⟩
    have HQ:=Lib.hid (hQ.mono R2.out.2.size)
    have HB3:=Lib.hid (R2.out.2.trans (hB3.mono R2.out.2.size))
    clear hQ hB3 d0 d1 d2
    go_wp2
    go_ret2
    exact ⟨_,rfl,HQ.out,HB3.out⟩
   ·have hP:p2 L.length=true:=by
     rw [←hn];subst hK;have hc2:=HC2.out;simp at hc2;exact hc2.2
    have t1:(K == 1)=true:=by simp;omega
    have HC:=Lib.hid (fun (wz:World) (hz:Below w.heap.size w wz)=>zCY hp hg g0 g1 ((HFd.out.below hz).mono hz.size) A c L inv hU ((HR.out.below hz).mono hz.size) hl HcL.out hP)
    unfold CalP at HC
    rw [←hn] at HC
    clear hK h hR hKr HC2 HFt HcL hn hl hP
    go_enter Tryz.func27,Tryz.ntmps27
    go_wp2_with (refine wpList_load_row rfl _ _ rfl _ rfl _ _ _ _ (R1.out.1) Tryz.underlying36 rfl (by exact zT5) ?_)
    refine (HF.out _ R1.out.2).mono ?_
    rintro e w2 ⟨rfl,hB2⟩
    have R2:=Lib.hid (And.intro (R1.out.1.keep hB2) (R1.out.2.trans (hB2.mono R1.out.2.size)))
    clear hB2
    have d0:=R2.out.1.cell (i:=0) (v:= .int .i64 K) rfl
    have d1:=R2.out.1.cell (i:=1) (v:= .int .i64 (n:Int)) rfl
    have d2:=R2.out.1.cell (i:=2) (v:= .int .i64 M) rfl
    go_wp2_with fail
    refine (HC.out w2 R2.out.2).mono ?_
    rintro e w3 ⟨V,rfl,hQ,hB3⟩
    have HQ:=Lib.hid (hQ.mono R2.out.2.size)
    have HB3:=Lib.hid (R2.out.2.trans (hB3.mono R2.out.2.size))
    clear hQ hB3 d0 d1 d2
    go_wp2
    go_ret2
    exact ⟨_,rfl,HQ.out,HB3.out⟩
   ·have hP:p2 L.length=true:=by
     rw [←hn];subst hK;have hc2:=HC2.out;simp at hc2;exact hc2.2
    have t1:(K == 1)=false:=by simp;omega
    have t2:(K == 2)=true:=by simp;omega
    have HC:=Lib.hid (fun (wz:World) (hz:Below w.heap.size w wz)=>zCZ hp hg g0 g1 ((HFd.out.below hz).mono hz.size) A c L inv hU ((HR.out.below hz).mono hz.size) hl HcL.out hP)
    unfold CalP at HC
    rw [←hn] at HC
    clear hK h hR hKr HC2 HFt HcL hn hl hP
    go_enter Tryz.func27,Tryz.ntmps27
    go_wp2_with (refine wpList_load_row rfl _ _ rfl _ rfl _ _ _ _ (R1.out.1) Tryz.underlying36 rfl (by exact zT5) ?_)
    refine (HF.out _ R1.out.2).mono ?_
    rintro e w2 ⟨rfl,hB2⟩
    have R2:=Lib.hid (And.intro (R1.out.1.keep hB2) (R1.out.2.trans (hB2.mono R1.out.2.size)))
    clear hB2
    have d0:=R2.out.1.cell (i:=0) (v:= .int .i64 K) rfl
    have d1:=R2.out.1.cell (i:=1) (v:= .int .i64 (n:Int)) rfl
    have d2:=R2.out.1.cell (i:=2) (v:= .int .i64 M) rfl
    go_wp2_with fail
    refine (HC.out w2 R2.out.2).mono ?_
    rintro e w3 ⟨V,rfl,hQ,hB3⟩
    have HQ:=Lib.hid (hQ.mono R2.out.2.size)
    have HB3:=Lib.hid (R2.out.2.trans (hB3.mono R2.out.2.size))
    clear hQ hB3 d0 d1 d2
    go_wp2
    go_ret2
    exact ⟨_,rfl,HQ.out,HB3.out⟩
   ·have hP:zQD L.length=true:=by
     rw [←hn];subst hK;have hc2:=HC2.out;simp at hc2;exact hc2.2
    have t1:(K == 1)=false:=by simp;omega
    have t2:(K == 2)=false:=by simp;omega
    have t3:(K == 3)=true:=by simp;omega
    have HC:=Lib.hid (fun (wz:World) (hz:Below w.heap.size w wz)=>zDa hp hg g0 g1 ((HFd.out.below hz).mono hz.size) A c L inv hU ((HR.out.below hz).mono hz.size) hl HcL.out hP)
    unfold CalP at HC
    rw [←hn] at HC
    clear hK h hR hKr HC2 HFt HcL hn hl hP
    go_enter Tryz.func27,Tryz.ntmps27
    go_wp2_with (refine wpList_load_row rfl _ _ rfl _ rfl _ _ _ _ (R1.out.1) Tryz.underlying36 rfl (by exact zT5) ?_)
    refine (HF.out _ R1.out.2).mono ?_
    rintro e w2 ⟨rfl,hB2⟩
    have R2:=Lib.hid (And.intro (R1.out.1.keep hB2) (R1.out.2.trans (hB2.mono R1.out.2.size)))
    clear hB2
    have d0:=R2.out.1.cell (i:=0) (v:= .int .i64 K) rfl
    have d1:=R2.out.1.cell (i:=1) (v:= .int .i64 (n:Int)) rfl
    have d2:=R2.out.1.cell (i:=2) (v:= .int .i64 M) rfl
    go_wp2_with fail
    refine (HC.out w2 R2.out.2).mono ?_
    rintro e w3 ⟨V,rfl,hQ,hB3⟩
    have HQ:=Lib.hid (hQ.mono R2.out.2.size)
    have HB3:=Lib.hid (R2.out.2.trans (hB3.mono R2.out.2.size))
    clear hQ hB3 d0 d1 d2
    go_wp2
    go_ret2
    exact ⟨_,rfl,HQ.out,HB3.out⟩
   ·have hP:copB L.length M=true:=by
     rw [←hn];subst hK;have hc2:=HC2.out;simp at hc2;exact hc2
    have t1:(K == 1)=false:=by simp;omega
    have t2:(K == 2)=false:=by simp;omega
    have t3:(K == 3)=false:=by simp;omega
    have t4:(K == 4)=true:=by simp;omega
    have HC:=Lib.hid (fun (wz:World) (hz:Below w.heap.size w wz)=>zCW hp hg g0 g1 ((HFd.out.below hz).mono hz.size) A c L inv hU ((HR.out.below hz).mono hz.size) M a0 a1 hl HcL.out hP)
    unfold CalP at HC
    rw [←hn] at HC
    clear hK h hR hKr HC2 HFt HcL hn hl hP
    go_enter Tryz.func27,Tryz.ntmps27
    go_wp2_with (refine wpList_load_row rfl _ _ rfl _ rfl _ _ _ _ (R1.out.1) Tryz.underlying36 rfl (by exact zT5) ?_)
    refine (HF.out _ R1.out.2).mono ?_
    rintro e w2 ⟨rfl,hB2⟩
    have R2:=Lib.hid (And.intro (R1.out.1.keep hB2) (R1.out.2.trans (hB2.mono R1.out.2.size)))
    clear hB2
    have d0:=R2.out.1.cell (i:=0) (v:= .int .i64 K) rfl
    have d1:=R2.out.1.cell (i:=1) (v:= .int .i64 (n:Int)) rfl
    have d2:=R2.out.1.cell (i:=2) (v:= .int .i64 M) rfl
    go_wp2_with fail
    refine (HC.out w2 R2.out.2).mono ?_
    rintro e w3 ⟨V,rfl,hQ,hB3⟩
    have HQ:=Lib.hid (hQ.mono R2.out.2.size)
    have HB3:=Lib.hid (R2.out.2.trans (hB3.mono R2.out.2.size))
    clear hQ hB3 d0 d1 d2
    go_wp2
    go_ret2
    exact ⟨_,rfl,HQ.out,HB3.out⟩
   ·have hP:fitR (rpad L.length) p=true:=by
     have h5:=zHl HFt.out (by omega)
     rw [←hn];subst hK;have hc2:=HC2.out;simp at hc2;rw [←hc2.2];exact h5
    have t1:(K == 1)=false:=by simp;omega
    have t2:(K == 2)=false:=by simp;omega
    have t3:(K == 3)=false:=by simp;omega
    have t4:(K == 4)=false:=by simp;omega
    have t5:(K == 5)=true:=by simp;omega
    have HC:=Lib.hid (fun (wz:World) (hz:Below w.heap.size w wz)=>zDb hp hg g0 g1 ((HFd.out.below hz).mono hz.size) A c L inv hU ((HR.out.below hz).mono hz.size) hl HcL.out hP)
    unfold CalP at HC
    rw [←hn] at HC
    clear hK h hR hKr HC2 HFt HcL hn hl hP
    go_enter Tryz.func27,Tryz.ntmps27
    go_wp2_with (refine wpList_load_row rfl _ _ rfl _ rfl _ _ _ _ (R1.out.1) Tryz.underlying36 rfl (by exact zT5) ?_)
    refine (HF.out _ R1.out.2).mono ?_
    rintro e w2 ⟨rfl,hB2⟩
    have R2:=Lib.hid (And.intro (R1.out.1.keep hB2) (R1.out.2.trans (hB2.mono R1.out.2.size)))
    clear hB2
    have d0:=R2.out.1.cell (i:=0) (v:= .int .i64 K) rfl
    have d1:=R2.out.1.cell (i:=1) (v:= .int .i64 (n:Int)) rfl
    have d2:=R2.out.1.cell (i:=2) (v:= .int .i64 M) rfl
    go_wp2_with fail
    refine (HC.out w2 R2.out.2).mono ?_
    rintro e w3 ⟨V,rfl,hQ,hB3⟩
    have HQ:=Lib.hid (hQ.mono R2.out.2.size)
    have HB3:=Lib.hid (R2.out.2.trans (hB3.mono R2.out.2.size))
    clear hQ hB3 d0 d1 d2
    go_wp2
    go_ret2
    exact ⟨_,rfl,HQ.out,HB3.out⟩
   ·have hP:fitR (cpad L.length) p=true:=by
     have h5:=zHl HFt.out (by omega)
     rw [←hn];subst hK;have hc2:=HC2.out;simp at hc2;rw [←hc2];exact h5
    have t1:(K == 1)=false:=by simp;omega
    have t2:(K == 2)=false:=by simp;omega
    have t3:(K == 3)=false:=by simp;omega
    have t4:(K == 4)=false:=by simp;omega
    have t5:(K == 5)=false:=by simp;omega
    have t6:(K == 6)=true:=by simp;omega
    have HC:=Lib.hid (fun (wz:World) (hz:Below w.heap.size w wz)=>zCV hp hg g0 g1 ((HFd.out.below hz).mono hz.size) A c L inv hU ((HR.out.below hz).mono hz.size) hl HcL.out hP)
    unfold CalP at HC
    rw [←hn] at HC
    clear hK h hR hKr HC2 HFt HcL hn hl hP
    go_enter Tryz.func27,Tryz.ntmps27
    go_wp2_with (refine wpList_load_row rfl _ _ rfl _ rfl _ _ _ _ (R1.out.1) Tryz.underlying36 rfl (by exact zT5) ?_)
    refine (HF.out _ R1.out.2).mono ?_
    rintro e w2 ⟨rfl,hB2⟩
    have R2:=Lib.hid (And.intro (R1.out.1.keep hB2) (R1.out.2.trans (hB2.mono R1.out.2.size)))
    clear hB2
    have d0:=R2.out.1.cell (i:=0) (v:= .int .i64 K) rfl
    have d1:=R2.out.1.cell (i:=1) (v:= .int .i64 (n:Int)) rfl
    have d2:=R2.out.1.cell (i:=2) (v:= .int .i64 M) rfl
    go_wp2_with fail
    refine (HC.out w2 R2.out.2).mono ?_
    rintro e w3 ⟨V,rfl,hQ,hB3⟩
    have HQ:=Lib.hid (hQ.mono R2.out.2.size)
    have HB3:=Lib.hid (R2.out.2.trans (hB3.mono R2.out.2.size))
    clear hQ hB3 d0 d1 d2
    go_wp2
    go_ret2
    exact ⟨_,rfl,HQ.out,HB3.out⟩
  ·have he:errP p K n M L=fitI p K n M:=by unfold errP;rw [if_neg hLN,if_pos hft]
   rw [he]
   obtain ⟨ft,hfe⟩: ∃ft,ft=fitI p K n M:=⟨_,rfl⟩
   rw [←hfe] at HF hft ⊢
   have hQ:Hid (∀wz,RunQ p g L inv ft w.heap.size (.slice none 0 0) wz):=Lib.hid (fun wz=> .inr ⟨hft,rfl⟩)
   have t3:(ft != 0)=true:=by simpa using hft
   rw [←hn]
   clear h hR hft hfe he hLN hn hl
   go_enter Tryz.func27,Tryz.ntmps27
   go_wp2_with (refine wpList_load_row rfl _ _ rfl _ rfl _ _ _ _ (R1.out.1) Tryz.underlying36 rfl (by exact zT5) ?_)
   refine (HF.out _ R1.out.2).mono ?_
   rintro e w2 ⟨rfl,hB2⟩
   have d1:=(R1.out.1.keep hB2).cell (i:=1) (v:= .int .i64 (n:Int)) rfl
   have HB:=Lib.hid (R1.out.2.trans (hB2.mono R1.out.2.size))
   clear hB2
   go_wp2
   go_ret2
   exact ⟨_,rfl,hQ.out _,HB.out⟩
end

section
/- cache: Get and Put of a nil cache. -/
open Go.RowKit
theorem zEV (P N K a b c:Int) (w:World):Calls Tryz.prog 140 #[.pointer none, .agg #[.int .u64 P, .int .i64 N, .int .i64 K], .agg #[.int .i64 a, .int .i64 b, .int .i64 c]] w fun e w'=>e= .returned (.tuple #[])∧Below w.heap.size w w':=by
 have R:=Lib.hid (lay2 w 75 36 #[.int .u64 P, .int .i64 N, .int .i64 K] #[.int .i64 a, .int .i64 b, .int .i64 c])
 go_enter Tryz.func140,Tryz.ntmps140
 go_wp2
 refine bodyPost_ret (results_none rfl _ _ _) rfl ?_
 exact ⟨rfl,R.out.2.2⟩
theorem zDG (P N K:Int) (w:World):Calls Tryz.prog 139 #[.pointer none, .agg #[.int .u64 P, .int .i64 N, .int .i64 K]] w fun e w'=>e= .returned (.tuple #[.agg (zD7 (0,0,0)), .bool false])∧Below w.heap.size w w':=by
 have R:=Lib.hid (lay3 w 75 36 36 #[.int .u64 P, .int .i64 N, .int .i64 K] #[.int .i64 0, .int .i64 0, .int .i64 0] #[.int .i64 0, .int .i64 0, .int .i64 0])
 have R2:=Lib.hid (R.out.2.1.setRow #[.int .i64 0, .int .i64 0, .int .i64 0])
 go_enter Tryz.func139,Tryz.ntmps139
 go_wp2_with (refine wpList_load_row rfl _ _ rfl _ rfl _ _ _ _ (R.out.2.2.1) Tryz.underlying36 rfl (by exact zT5) ?_)
 go_wp2_with (refine wpList_store_row rfl _ _ _ rfl _ _ rfl rfl _ _ (R.out.2.1) (by exact zT5) rfl (zOs _ _ _) ?_)
 refine bodyPost_ret (zR9 rfl _ _ _ _ _ _ rfl R.out.2.1 Tryz.underlying36 rfl (by exact zT5)) (by rfl) ?_
 exact ⟨rfl,R.out.2.2.2⟩
end

section
/- cache.Choose of a nil cache. -/
open Go.RowKit
theorem zT4:(Tryz.prog.info? 75).map (fun i=>i.size)=some 3:=by kernel_rfl
theorem zJR (K N A:Int):((#[.int .u64 K, .int .i64 N, .int .i64 A]:Array Value).all fun v=>v.oneCell')=true:=by simp;exact ⟨rfl,rfl,rfl⟩
set_option maxHeartbeats 2000000 in
theorem zDr {w:World} {q:Option Addr} {p g:Int} (hFd:Fd w w.heap.size (.pointer q) p g) (n k:Int) (n0: -9223372036854775808≤n) (n1:n≤9223372036854775807):
  Calls Tryz.prog 82 #[.pointer none, .pointer q, .int .i64 n, .int .i64 k] w fun e w'=>e= .returned (.tuple #[.agg (zD7 (chP p n k)), .int .i64 (chE p n k)])∧Below w.heap.size w w':=by
 have R1:=Lib.hid (lay1 w 36 #[.int .i64 0, .int .i64 0, .int .i64 0])
 have HP:=Lib.hid (zG6 (hFd.below R1.out.2))
 have R2:=Lib.hid (lay2 w 36 75 #[.int .i64 0, .int .i64 0, .int .i64 0] #[.int .u64 0, .int .i64 0, .int .i64 0])
 have R3:=Lib.hid (R2.out.2.1.setRow #[.int .u64 p, .int .i64 n, .int .i64 k])
 have HG:=Lib.hid (fun W=>zDG p n k W)
 have HF:=Lib.hid hFd
 clear hFd
 go_enter Tryz.func82,Tryz.ntmps82
 go_wp2_with fail
 refine HP.out.mono ?_
 rintro e w1 ⟨rfl,rfl⟩
 go_wp2_with (first|(refine wpList_store_row rfl _ _ _ rfl _ _ rfl rfl _ _ (R2.out.2.1) (by exact zT4) rfl (zJR _ _ _) ?_)|(refine wpList_load_row rfl _ _ rfl _ rfl _ _ _ _ (R3.out) Tryz.underlying75 rfl (by exact zT4) ?_))
 refine (HG.out _).mono ?_
 rintro e w2 ⟨rfl,hB2⟩
 have hlt:w.heap.size+2≤w2.heap.size:=Nat.le_trans (by simp) hB2.size
 have HB2:=Lib.hid ((below_setRow R2.out.2.2 (show w.heap.size≤w.heap.size+1 by omega) #[.int .u64 p, .int .i64 n, .int .i64 k]).trans (hB2.mono (by simp;omega)))
 have A0:=Lib.hid ((R2.out.1.setRowOther (w.heap.size+1) #[.int .u64 p, .int .i64 n, .int .i64 k] (by omega)).keep hB2)
 have A1:=Lib.hid (R3.out.keep hB2)
 clear hB2 R1 R2 R3 HP HG
 have L2:=Lib.hid (lay1 w2 36 #[.int .i64 0, .int .i64 0, .int .i64 0])
 go_wp2_with (first|(refine wpList_store_row rfl _ _ _ rfl _ _ rfl rfl _ _ (L2.out.1) (by exact zT5) rfl (zOs _ _ _) ?_))
 have hB3:=below_setRow L2.out.2 (Nat.le_refl _) (zD7 (0,0,0))
 have A0':=Lib.hid (A0.out.keep hB3)
 have A1':=Lib.hid (A1.out.keep hB3)
 have HB3:=Lib.hid (HB2.out.trans (hB3.mono (by omega)))
 clear A0 A1 HB2
 refine (zEr ((HF.out.below HB3.out).mono (by simp;omega)) n k n0 n1).mono ?_
 rintro e w4 ⟨rfl,hB4⟩
 have A0:=Lib.hid (A0'.out.keep hB4)
 have A1:=Lib.hid (A1'.out.keep hB4)
 have hl4:w.heap.size+3≤w4.heap.size:=Nat.le_trans (by simp;omega) hB4.size
 have HB4:=Lib.hid (HB3.out.trans (hB4.mono (by simp;omega)))
 obtain ⟨⟨c0,c1,c2⟩,hc⟩: ∃c,c=chP p n k:=⟨_,rfl⟩
 obtain ⟨er,he⟩: ∃er,er=chE p n k:=⟨_,rfl⟩
 rw [←hc,←he]
 have HC:=Lib.hid hc
 have HE:=Lib.hid he
 clear hB4 hB3 A0' A1' HB3 L2 hc he HF
 have L4:=Lib.hid (lay1 w4 36 #[.int .i64 0, .int .i64 0, .int .i64 0])
 have hB5:=below_setRow L4.out.2 (Nat.le_refl _) (zD7 (c0,c1,c2))
 have A0':=Lib.hid (A0.out.keep hB5)
 have A1':=Lib.hid (A1.out.keep hB5)
 have P5:=Lib.hid (L4.out.1.setRow (zD7 (c0,c1,c2)))
 have HB5:=Lib.hid (HB4.out.trans (hB5.mono (by omega)))
 have HPu:=Lib.hid (fun W=>zEV p n k c0 c1 c2 W)
 clear A0 A1 HB4 hB5
 by_cases h0:er=0
 ·have t0:(er == 0)=true:=by simp [h0]
  clear h0
  go_wp2_with (first|(refine wpList_store_row rfl _ _ _ rfl _ _ rfl rfl _ _ (L4.out.1) (by exact zT5) rfl (zOs _ _ _) ?_)|(refine wpList_load_row rfl _ _ rfl _ rfl _ _ _ _ (A1'.out) Tryz.underlying75 rfl (by exact zT4) ?_)|(refine wpList_load_row rfl _ _ rfl _ rfl _ _ _ _ (P5.out) Tryz.underlying36 rfl (by exact zT5) ?_))
  refine (HPu.out _).mono ?_
  rintro e w6 ⟨rfl,hB6⟩
  have P6:=Lib.hid (P5.out.keep hB6)
  have A6:=Lib.hid (A0'.out.keep hB6)
  have HB6:=Lib.hid (HB5.out.trans (hB6.mono (by simp;omega)))
  have A7:=Lib.hid (A6.out.setRow (zD7 (c0,c1,c2)))
  clear hB6 P5 A0' A1' HB5 HPu L4
  go_wp2_with (first|(refine wpList_load_row rfl _ _ rfl _ rfl _ _ _ _ (P6.out) Tryz.underlying36 rfl (by exact zT5) ?_)|(refine wpList_store_row rfl _ _ _ rfl _ _ rfl rfl _ _ (A6.out) (by exact zT5) rfl (zOs _ _ _) ?_))
  refine bodyPost_ret (zR9 rfl _ _ _ _ _ _ rfl A7.out Tryz.underlying36 rfl (by exact zT5)) (by rfl) ?_
  exact ⟨by rw [←HC.out,←HE.out];rfl,below_setRow HB6.out (Nat.le_refl _) _⟩
 ·have t0:(er == 0)=false:=by simp [h0]
  have A7:=Lib.hid (A0'.out.setRow (zD7 (c0,c1,c2)))
  clear h0 HPu
  go_wp2_with (first|(refine wpList_store_row rfl _ _ _ rfl _ _ rfl rfl _ _ (L4.out.1) (by exact zT5) rfl (zOs _ _ _) ?_)|(refine wpList_load_row rfl _ _ rfl _ rfl _ _ _ _ (P5.out) Tryz.underlying36 rfl (by exact zT5) ?_)|(refine wpList_store_row rfl _ _ _ rfl _ _ rfl rfl _ _ (A0'.out) (by exact zT5) rfl (zOs _ _ _) ?_))
  refine bodyPost_ret (zR9 rfl _ _ _ _ _ _ rfl A7.out Tryz.underlying36 rfl (by exact zT5)) (by rfl) ?_
  exact ⟨by rw [←HC.out,←HE.out];rfl,below_setRow HB5.out (Nat.le_refl _) _⟩
end

section
/- What layer 18 chooses fits; with no way named there is always one, where a length can be. -/
open Go.RowKit
def zAq (p n:Int) (x:PlT):Prop:=fitI p x.1 x.2.1 x.2.2=0∧x.2.1=n∧0≤x.2.2∧x.2.2≤4096
theorem zNd {p K n A:Int} {x:PlT} (h0:0≤A) (h1:A≤4096) (h:x ∈ one p K n A):zAq p n x:=by
 unfold one at h
 split at h
 ·rename_i hf
  rw [List.mem_singleton] at h
  subst h
  exact ⟨hf,rfl,h0,h1⟩
 ·cases h
theorem zMJ {p n:Int} {a:Nat} {x:PlT} (ha:a≤4096) (h:x ∈ of4 p n a):zAq p n x:=by
 unfold of4 at h
 obtain ⟨i,hi,rfl⟩:=List.mem_map.1 h
 obtain ⟨h1,h2⟩:=List.mem_filter.1 hi
 rw [decide_eq_true_eq] at h2
 have:=List.mem_range.1 h1
 exact ⟨h2.2,rfl,by show (0:Int)≤(i:Int);omega,by show (i:Int)≤4096;omega⟩
theorem zB0 {p n:Int} {x:PlT} (hn:1≤n∧n≤1024) (h:x ∈ allL p n):zAq p n x:=by
 unfold allL upA at h
 obtain ⟨k,_,hk⟩:=List.mem_flatMap.1 h
 unfold ofL at hk
 split at hk
 ·exact zMJ (by omega) hk
 ·split at hk
  ·exact zNd (zSs n).1 (zSs n).2 hk
  ·split at hk
   ·exact zNd (zET n).1 (zET n).2 hk
   ·exact zNd (by decide) (by decide) hk
theorem zDL {P:PlT→Prop} (k:Int): ∀(L:List PlT) (b:PlT),(b=(0,0,0)∨P b)→(∀x ∈ L,P x)→L.foldl (chz k) b=(0,0,0)∨P (L.foldl (chz k) b)
 | [],b,hb,_=>hb
 | x :: L,b,hb,h=>by
  rw [List.foldl_cons]
  refine zDL k L _ ?_ (fun y hy=>h y (List.mem_cons_of_mem _ hy))
  unfold chz
  split
  ·exact .inr (h x List.mem_cons_self)
  ·exact hb
theorem zDI {p n k:Int} (h:chE p n k=0):zAq p n (chP p n k):=by
 unfold chE at h
 unfold chP
 split at h
 ·rename_i hc
  rw [if_pos hc]
  split at h
  ·omega
  ·rename_i h0
   exact (zDL k (allL p n) (0,0,0) (.inl rfl) fun x hx=>zB0 (zEo hc) hx).resolve_left h0
 ·rename_i hc;exact absurd h hc
theorem zDN (k:Int): ∀(L:List PlT) (b:PlT),b≠(0,0,0)→(∀x ∈ L,CanP x)→L.foldl (chz k) b≠(0,0,0)
 | [],b,hb,_=>hb
 | x :: L,b,hb,h=>by
  rw [List.foldl_cons]
  refine zDN k L _ ?_ (fun y hy=>h y (List.mem_cons_of_mem _ hy))
  unfold chz
  split
  ·exact zDk (h x List.mem_cons_self)
  ·exact hb
theorem zDR {p n:Int} (h:chk p n 1024=0):chE p n (-1)=0:=by
 have hn:=zEo h
 have hc:canB 0 n 0=true:=by rw [zDg hn];rfl
 have hf:fitI p 0 n 0=0:=by
  unfold fitI
  rw [if_neg (by simp [h]),if_neg]
  rintro (h1|⟨h1,_⟩)
  ·rw [hc] at h1;cases h1
  ·omega
 have h1:upA p n 1= [(0,n,0)]:=by
  unfold upA ofL one
  simp [hf]
 obtain ⟨T,hT⟩:=zVW p n 1 7 (by decide)
 rw [h1] at hT
 have hall:allL p n=(0,n,0) :: T:=hT.symm
 unfold chE
 rw [if_pos h,if_neg]
 unfold chF
 rw [hall,List.foldl_cons]
 have hx: ∀x ∈ allL p n,CanP x:=fun x hx=>zBz hn h hx
 rw [hall] at hx
 refine zDN (-1) T _ ?_ fun x h=>hx x (List.mem_cons_of_mem _ h)
 unfold chz
 rw [if_pos ⟨.inl rfl, .inl rfl⟩]
 intro e
 have:=congrArg (fun x:PlT=>x.2.1) e
 simp at this
 omega
noncomputable def rndf (p k:Int) (L M:List Int):Int:=if L.length≠M.length then 1 else if chE p L.length k≠0 then chE p L.length k else if (zI1 p L && zI1 p M)=false then 9 else 0
theorem zRZ {p k:Int} {L M:List Int} (h:rndf p k L M=0):L.length=M.length∧chE p L.length k=0∧zI1 p L=true∧zI1 p M=true:=by
 unfold rndf at h
 split at h
 ·omega
 ·rename_i h1
  split at h
  ·rename_i h2;exact absurd h h2
  ·rename_i h2
   split at h
   ·omega
   ·rename_i h3
    simp only [Bool.not_eq_false,Bool.and_eq_true] at h3
    exact ⟨by omega,by omega,h3.1,h3.2⟩
end

section
/- convolve.Cyclic, over whatever holds the plans. -/
open Go.RowKit
open Alg
def Chs (cv fv:Value) (p n k:Int) (B:Nat) (Q:World→Prop):Prop:=
 ∀W,Q W→Calls Tryz.prog 82 #[cv,fv, .int .i64 n, .int .i64 k] W fun e w'=>e= .returned (.tuple #[.agg (zD7 (chP p n k)), .int .i64 (chE p n k)])∧Below B W w'∧Q w'
theorem zBu {p:Nat} [NeZero p] {g:Int} (hp:Prime p) (hg:Ord (zt p g) (p-1)) {L M:List Int} (hlm:L.length=M.length) (hck:chk p L.length 1024=0):
  lst L.length (tr (zt p g) L.length true (fun j=>tr (zt p g) L.length false (rz p L) j*tr (zt p g) L.length false (rz p M) j))=lst L.length (rnd p L M):=by
 obtain ⟨hd,h0⟩:=zEl (by have:=hp.1;omega) hck
 exact zKW fun i hi=>by rw [zRY L M hlm hi];exact zVk hp hg hd h0 _ _ i hi
set_option maxHeartbeats 4000000 in
set_option maxRecDepth 100000 in
theorem zBb {p:Nat} [NeZero p] {w:World} {v:Value} {g:Int} (hp:Prime p) (hg:Ord (zt p g) (p-1)) (g0:0≤g) (g1:g<p) (B:Nat) (hBw:B≤w.heap.size) (h:Fd w B v p g) (AA AB:Option Addr) (cA cB:Nat) (L M:List Int) (k:Int)
  (hU:U64s L) (hU':U64s M) (hA:RdI w B .u64 AA L) (hB:RdI w B .u64 AB M) (hf:rndf p k L M=0) (cv:Value) (Q:World→Prop) (hQ: ∀W W',Q W→Below W.heap.size W W'→Q W') (hC:Chs cv v p L.length k B Q) (hq:Q w):
  Calls Tryz.prog 37 #[v,cv, .slice AA L.length cA, .slice AB M.length cB, .int .i64 k] w fun r w'=> ∃V,r= .returned (.tuple #[V, .int .i64 0])∧OwnU w' w.heap.size V L.length (lst L.length (rnd p L M))∧Below B w w'∧Q w':=by
 obtain ⟨hlm,hce,hgL,hgM⟩:=zRZ hf
 obtain ⟨hf0,hN,hA0,hA1⟩:=zDI hce
 have hck:chk p L.length 1024=0:=by have:=zHg hf0;rw [hN] at this;exact this
 have hrg:=zEo hck
 have hK:=zDd (zHf hf0)
 have HPM:=Lib.hid (And.intro h.p3 h.pmx)
 obtain ⟨⟨K,N,A⟩,hx⟩: ∃x,x=chP p L.length k:=⟨_,rfl⟩
 rw [←hx] at hf0 hN hA0 hA1 hK
 have hN':N=(L.length:Int):=hN
 replace hK:0≤K∧K≤6:=hK
 replace hA0:0≤A:=hA0
 replace hA1:A≤4096:=hA1
 have HCh:=Lib.hid (hC w hq)
 rw [hce,←hx] at HCh
 subst hN'
 have HF:=Lib.hid h
 have HR1:=Lib.hid hA
 have HR2:=Lib.hid hB
 have HRun:Hid (∀(X:List Int) (inv:Bool) (AX:Option Addr) (cX:Nat) W,X.length=L.length→zI1 p X=true→U64s X→Fd W W.heap.size v p g→RdI W W.heap.size .u64 AX X→
   Calls Tryz.prog 27 #[v, .agg #[.int .i64 K, .int .i64 L.length, .int .i64 A], .slice AX L.length cX, .bool inv] W fun e w'=> ∃V,e= .returned (.tuple #[V, .int .i64 0])∧OwnU w' W.heap.size V L.length (lst L.length (tr (zt p g) L.length inv (rz p X)))∧Below W.heap.size W w'):=Lib.hid (fun X inv AX cX W hl hgX hUX hW hRX=>by
  have he:errP p K L.length A X=0:=by unfold errP zI4;rw [if_neg (by omega),if_neg (by simp [hf0]),if_neg (by simp [hgX])]
  have h1:=zPr hp hg g0 g1 hW AX cX X inv hUX hRX K L.length A (by omega) (by omega) (by omega) (by omega) (by omega) (by omega) (by omega)
  rw [he,hl] at h1
  refine h1.mono ?_
  rintro e w' ⟨V,he',hQ,hb⟩
  rcases hQ with ⟨_,ho⟩|⟨hne,_⟩
  ·rw [hl] at ho;exact ⟨V,he',ho,hb⟩
  ·exact absurd rfl hne)
 have HT:=Lib.hid (zBu hp hg hlm hck)
 obtain ⟨n,hn⟩: ∃n,n=L.length:=⟨_,rfl⟩
 have hm:M.length=n:=by omega
 have HG:Hid (∀W,Fd W W.heap.size v p g→RdI W W.heap.size .u64 AA L→RdI W W.heap.size .u64 AB M→Calls Tryz.prog 78 #[v, .slice AA n cA, .slice AB n cB] W fun e w'=>e= .returned (.bool true)∧W=w'):=Lib.hid (fun W hW h1 h2=>by
  have:=zDH hW AA AB cA cB L M (by omega) (by omega) hU hU' h1 h2
  rw [hgL,hgM,hm,←hn] at this;exact this)
 have HR3:=Lib.hid (HRun.out L false AA cA · rfl hgL hU)
 have HR4:=Lib.hid (HRun.out M false AB cB · hlm.symm hgM hU')
 have HR5:Hid (∀(F:Nat→Fin p) AX cX W,Fd W W.heap.size v p g→RdI W W.heap.size .u64 AX (lst n F)→Calls Tryz.prog 27 #[v, .agg #[.int .i64 K, .int .i64 n, .int .i64 A], .slice AX n cX, .bool true] W fun e w'=> ∃V,e= .returned (.tuple #[V, .int .i64 0])∧OwnU w' W.heap.size V n (lst n (tr (zt p g) n true F))∧Below W.heap.size W w'):=Lib.hid (fun F AX cX W hW hX=>by
  have h1:=HRun.out (lst n F) true AX cX W (by rw [zLb];exact hn) (zKZ _ _) (zLd HPM.out.2 _ _) hW hX
  rw [←hn,show lst n (tr (zt p g) n true (rz p (lst n F)))=lst n (tr (zt p g) n true F) from zKW fun i _=>zVn _ _ _ _ _] at h1
  exact h1)
 rw [←hn] at HR3 HR4 HT HCh ⊢
 rw [hm]
 obtain ⟨X,hX⟩: ∃X,X=tr (zt p g) n false (rz p L):=⟨_,rfl⟩
 obtain ⟨Y,hY⟩: ∃Y,Y=tr (zt p g) n false (rz p M):=⟨_,rfl⟩
 rw [←hX] at HR3 HT
 rw [←hY] at HR4 HT
 have HTm:Hid (∀W A' B' c' d',Fd W W.heap.size v p g→RdI W W.heap.size .u64 A' (lst n X)→RdI W W.heap.size .u64 B' (lst n Y)→Calls Tryz.prog 83 #[v, .slice A' n c', .slice B' n d'] W fun r w'=> ∃V,r= .returned V∧OwnU w' W.heap.size V n (lst n fun j=>X j*Y j)∧Below W.heap.size W w'):=Lib.hid (fun W A' B' c' d' hW h1 h2=>
  zUU hW n (by omega) (by omega) A' B' c' d' X Y h1 h2)
 have HR6:=Lib.hid (HR5.out (fun j=>X j*Y j))
 rw [HT.out] at HR6
 obtain ⟨fb,rfl⟩: ∃fb,v= .pointer (some ⟨fb,0,none⟩):=by
  obtain ⟨b,c,t,o,s,sv,hv,_⟩:=h
  exact ⟨b,hv⟩
 have hn1:n≤1024:=by omega
 have HN:=Lib.hid hn
 obtain ⟨Z,hZ⟩: ∃Z,Z=lst n (rnd p L M):=⟨_,rfl⟩
 rw [←hZ] at HR6 ⊢
 have HQ:=Lib.hid hQ
 clear h hA hB hU hU' hf hC hq hQ hce hf0 hN hck hx HRun HT HR5 hX hY hZ hn hm hlm hgL hgM hrg hp hg g0 g1
 go_enter Tryz.func37,Tryz.ntmps37
 go_wp2_with fail
 refine HCh.out.mono ?_
 rintro e w1 ⟨rfl,hB1,hq1⟩
 simp only [zD7]
 have L1:=Lib.hid (lay1 w1 36 #[.int .i64 0, .int .i64 0, .int .i64 0])
 have hBs:=below_setRow L1.out.2 (Nat.le_refl _) #[.int .i64 K, .int .i64 n, .int .i64 A]
 have KP0:Hid (∀G,B≤G→ ∀W W',(zAI W G 36 #[.int .i64 K, .int .i64 n, .int .i64 A]∧Below B w W∧Q W)→Below W.heap.size W W'→(zAI W' G 36 #[.int .i64 K, .int .i64 n, .int .i64 A]∧Below B w W'∧Q W')):=Lib.hid (fun G hG W W' h hY=>⟨h.1.keep hY,h.2.1.trans (hY.mono (Nat.le_trans hBw h.2.1.size)),HQ.out _ _ h.2.2 hY⟩)
 have P1:=Lib.hid (And.intro (L1.out.1.setRow #[.int .i64 K, .int .i64 n, .int .i64 A]) (And.intro (hB1.trans (hBs.mono (Nat.le_trans hBw hB1.size))) (HQ.out _ _ hq1 hBs)))
 have hl1:w.heap.size≤w1.heap.size∨True:= .inr trivial
 have KP:=Lib.hid (KP0.out w1.heap.size (Nat.le_trans hBw hB1.size))
 have HFs:Hid (∀W,Below B w W→Fd W W.heap.size (.pointer (some ⟨fb,0,none⟩)) p g):=Lib.hid (fun W hW=>Fd.mono (HF.out.below hW) (Nat.le_trans hBw hW.size))
 have HRa:Hid (∀W,Below B w W→RdI W W.heap.size .u64 AA L):=Lib.hid (fun W hW=>RdI.mono (HR1.out.below hW) (Nat.le_trans hBw hW.size))
 have HRb:Hid (∀W,Below B w W→RdI W W.heap.size .u64 AB M):=Lib.hid (fun W hW=>RdI.mono (HR2.out.below hW) (Nat.le_trans hBw hW.size))
 clear hBs hq1 hB1 HF HR1 HR2 HQ KP0 hl1
 go_wp2_with (refine wpList_store_row rfl _ _ _ rfl _ _ rfl rfl _ _ (L1.out.1) (by exact zT5) rfl (zOs _ _ _) ?_)
 refine (HG.out _ (HFs.out _ P1.out.2.1) (HRa.out _ P1.out.2.1) (HRb.out _ P1.out.2.1)).mono ?_
 rintro e w2 ⟨rfl,rfl⟩
 clear L1 HG
 obtain ⟨G,hG⟩: ∃G,G=w1.heap.size:=⟨_,rfl⟩
 obtain ⟨w2,hw2⟩: ∃w2,w2=(w1.alloc (.cells #[.int .i64 0, .int .i64 0, .int .i64 0] 36)).setRow w1.heap.size #[.int .i64 K, .int .i64 n, .int .i64 A]:=⟨_,rfl⟩
 rw [←hw2] at P1 ⊢
 rw [←hG] at P1 KP ⊢
 clear hw2 hG
 go_wp2_with (refine wpList_load_row rfl _ _ rfl _ rfl _ _ _ _ (P1.out.1) Tryz.underlying36 rfl (by exact zT5) ?_)
 refine (HR3.out _ (HFs.out _ P1.out.2.1) (HRa.out _ P1.out.2.1)).mono ?_
 rintro e w3 ⟨V3,rfl,hO3,hB3⟩
 obtain ⟨A3,c3,rfl,hR3⟩:=hO3.rd
 have P3:=Lib.hid (KP.out _ _ P1.out hB3)
 have HR3:=Lib.hid hR3
 clear hO3 hR3 hB3 P1
 go_wp2_with (refine wpList_load_row rfl _ _ rfl _ rfl _ _ _ _ (P3.out.1) Tryz.underlying36 rfl (by exact zT5) ?_)
 refine (HR4.out _ (HFs.out _ P3.out.2.1) (HRb.out _ P3.out.2.1)).mono ?_
 rintro e w4 ⟨V4,rfl,hO4,hB4⟩
 obtain ⟨A4,c4,rfl,hR4⟩:=hO4.rd
 have P4:=Lib.hid (KP.out _ _ P3.out hB4)
 have HX:=Lib.hid ((HR3.out.below hB4).mono hB4.size)
 have HY:=Lib.hid hR4
 clear hO4 hR4 hB4 P3 HR3 HR4 HRa HRb
 go_wp2_with fail
 have z0:=Lib.hid (KP.out _ _ P4.out (below_drewN (Below.refl _ _) 1))
 have HX0:Hid (RdI (w4.drewN 1) (w4.drewN 1).heap.size .u64 A3 (lst n X)):=Lib.hid HX.out
 have HY0:Hid (RdI (w4.drewN 1) (w4.drewN 1).heap.size .u64 A4 (lst n Y)):=Lib.hid HY.out
 clear P4 HX HY
 refine wp_region_held_drew (S:=fun wz=>zAI wz G 36 #[.int .i64 K, .int .i64 n, .int .i64 A]) (by kernel_rfl) (z0.out.1) (fun hHeld=>?_)
 refine wpAnyH_take (i:=0) (v:=?_) rfl (by kernel_rfl) (by kernel_rfl) (by kernel_rfl) (fun _ _ _ h=>h) (Or.inl ⟨by rfl,?_⟩) z0.out.1 ?_
 rotate_left
 ·intro w hSw;(try dsimp only at hSw);go_simp;try with_reducible rfl
 try simp only [Act.put,zKx]
 refine wpAnyH_take (i:=1) rfl (by kernel_rfl) (by kernel_rfl) (by kernel_rfl) (fun _ _ _ h=>h) (zXh (by rfl) _ _ rfl _ rfl _ _ _ (fun wz h=>h) Tryz.underlying36 rfl (by exact zT5)) z0.out.1 ?_
 try simp only [Act.put,zKx]
 refine wpAnyH_take (i:=2) (v:=?_) rfl (by kernel_rfl) (by kernel_rfl) (by kernel_rfl) (fun _ _ _ h=>h) (Or.inl ⟨by rfl,?_⟩) z0.out.1 ?_
 rotate_left
 ·intro w hSw;(try dsimp only at hSw);go_simp;try with_reducible rfl
 try simp only [Act.put,zKx]
 refine wpAnyH_take (i:=3) (v:=?_) rfl (by kernel_rfl) (by kernel_rfl) (by kernel_rfl) (fun _ _ _ h=>h) (Or.inl ⟨by rfl,?_⟩) z0.out.1 ?_
 rotate_left
 ·intro w hSw;(try dsimp only at hSw);go_simp;try with_reducible rfl
 try simp only [Act.put,zKx]
 refine wpAnyH_take (i:=4) (v:=?_) rfl (by kernel_rfl) (by kernel_rfl) (by kernel_rfl) (fun _ _ _ h=>h) (Or.inl ⟨by rfl,?_⟩) z0.out.1 ?_
 rotate_left
 ·intro w hSw;(try dsimp only at hSw);go_simp;try with_reducible rfl
 try simp only [Act.put,zKx]
 refine wpAnyH_ready (rs:= [5]) (by kernel_rfl) (by simp) ?_
 refine AllReadyH.cons rfl (fun K hK=>?_) AllReadyH.nil
 try simp only [zKx]
 rw [if_pos (by rfl)]
 go_wp2_with (go_at_call 83;refine (HTm.out _ _ _ _ _ (HFs.out _ z0.out.2.1) HX0.out HY0.out).mono ?_;rintro e y5 ⟨V5,rfl,hO5,hY⟩)
 have z5:=Lib.hid (KP.out _ _ z0.out hY)
 obtain ⟨A5,c5,rfl,hR5⟩:=hO5.rd
 have HR5:=Lib.hid hR5
 clear hO5 hR5 hY
 refine hK.out _ _ (z5.out.1) (fun _=>?_)
 clear hK K
 try simp only [Act.put,zKx]
 refine wpAnyH_ready (rs:= [6]) (by kernel_rfl) (by simp) ?_
 refine AllReadyH.cons rfl (fun K hK=>?_) AllReadyH.nil
 try simp only [zKx]
 rw [if_pos (by rfl)]
 go_wp2_with (go_at_call 27;refine (HR6.out _ _ _ (HFs.out _ z5.out.2.1) HR5.out).mono ?_;rintro e y6 ⟨V6,rfl,hO6,hY⟩)
 have z6:=Lib.hid (KP.out _ _ z5.out hY)
 have HO6:=Lib.hid hO6
 have HB6:=Lib.hid hY
 clear hO6 hY
 refine hK.out _ _ (z6.out.1) (fun _=>?_)
 clear hK K
 try simp only [Act.put,zKx]
 refine wpAnyH_take (i:=7) (v:=?_) rfl (by kernel_rfl) (by kernel_rfl) (by kernel_rfl) (fun _ _ _ h=>h) (Or.inl ⟨by rfl,?_⟩) z6.out.1 ?_
 rotate_left
 ·intro w hSw;(try dsimp only at hSw);go_simp;try with_reducible rfl
 try simp only [Act.put,zKx]
 refine wpAnyH_take (i:=8) (v:=?_) rfl (by kernel_rfl) (by kernel_rfl) (by kernel_rfl) (fun _ _ _ h=>h) (Or.inl ⟨by rfl,?_⟩) z6.out.1 ?_
 rotate_left
 ·intro w hSw;(try dsimp only at hSw);go_simp;try with_reducible rfl
 try simp only [Act.put,zKx]
 refine wpAnyH_take (i:=9) (v:=?_) rfl (by kernel_rfl) (by kernel_rfl) (by kernel_rfl) (fun _ _ _ h=>h) (Or.inl ⟨by rfl,?_⟩) z6.out.1 ?_
 rotate_left
 ·intro w hSw;(try dsimp only at hSw);go_simp;try with_reducible rfl
 try simp only [Act.put,zKx]
 refine wpAnyH_take (i:=10) (v:=?_) rfl (by kernel_rfl) (by kernel_rfl) (by kernel_rfl) (fun _ _ _ h=>h) (Or.inl ⟨by rfl,?_⟩) z6.out.1 ?_
 rotate_left
 ·intro w hSw;(try dsimp only at hSw);go_simp;try with_reducible rfl
 try simp only [Act.put,zKx]
 refine wpAnyH_done (by kernel_rfl) ?_ _
 go_wp2
 go_ret2
 exact ⟨_,rfl,HO6.out.mono z5.out.2.1.size,z6.out.2.1,z6.out.2.2⟩
end

section
/- The law's first check: alive, of layer 21. -/
open Go.RowKit
open Alg
theorem zTA:(Tryz.prog.info? 25).map (·.size)=some 4:=by kernel_rfl
theorem zB9:lst 4 (drc 97 [1,2] [3,4,5])= [3,10,13,10]:=by decide +kernel
theorem zBD:lst 3 (rnd 97 [1,2,0] [3,4,5])= [13,10,13]:=by decide +kernel
theorem zBC:rndf 97 (-1) [1,2,0] [3,4,5]=0:=by
 have h1:chE 97 ((3:Nat):Int) (-1)=0:=zDR (by decide)
 unfold rndf
 rw [if_neg (by decide),if_neg (by simp only [List.length_cons,List.length_nil];simpa using h1),if_neg (by decide)]
theorem zBE {q:Option Addr} {p g:Int} (n:Nat) (k:Int) (hn:n≤140737488351232) (B:Nat):Chs (.pointer none) (.pointer q) p n k B (fun W=>Fd W W.heap.size (.pointer q) p g∧B≤W.heap.size):=fun W hW=>
 (zDr hW.1 (n:Int) k (by omega) (by omega)).mono fun e w' ⟨he,hb⟩=>⟨he,hb.mono hW.2,(hW.1.below hb).mono hb.size,Nat.le_trans hW.2 hb.size⟩
theorem zCu {v:Value} {p g:Int} {B:Nat} (W W':World) (h:Fd W W.heap.size v p g∧B≤W.heap.size) (hb:Below W.heap.size W W'):Fd W' W'.heap.size v p g∧B≤W'.heap.size:=
 ⟨(h.1.below hb).mono hb.size,Nat.le_trans h.2 hb.size⟩
set_option maxHeartbeats 4000000 in
set_option maxRecDepth 100000 in
theorem zBx (w:World):Calls Tryz.prog 31 #[] w fun e w'=>e= .returned (.bool true)∧Below w.heap.size w w':=by
 go_enter Tryz.func31,Tryz.ntmps31
 go_wp2_with fail
 refine (zTY 97 5 zIs zM9 w).mono ?_
 rintro r w1 ⟨v,rfl,hC,hF,hB1⟩
 obtain ⟨q,rfl⟩: ∃q,v= .pointer q:=by
  obtain ⟨b,_,_,_,_,_,e,_⟩:=hF
  exact ⟨_,e⟩
 have HC:Hid (Ord (zt 97 5) (97-1)):=Lib.hid ((Cert.nat (q:=97) hC).2)
 have HF:=Lib.hid hF
 clear hC hF
 go_wp2_with fail
 have hB4:=(Below.refl w1.heap.size w1).alloc (Nat.le_refl _) (.cells (ints .u64 [1,2]).toArray 22)
 have hs4:(w1.alloc (.cells (ints .u64 [1,2]).toArray 22)).heap.size=w1.heap.size+1:=by simp
 have hB5':=(Below.refl (w1.alloc (.cells (ints .u64 [1,2]).toArray 22)).heap.size (w1.alloc (.cells (ints .u64 [1,2]).toArray 22))).alloc (Nat.le_refl _) (.cells (ints .u64 [3,4,5]).toArray 22)
 have hB5:=hB4.trans (hB5'.mono hB4.size)
 have hs5:((w1.alloc (.cells (ints .u64 [1,2]).toArray 22)).alloc (.cells (ints .u64 [3,4,5]).toArray 22)).heap.size=w1.heap.size+1+1:=by simp
 have hLa:=((RdU.lit w1 [1,2]).below (by rw [hs4] at hB5';exact hB5')).mono (show w1.heap.size+1≤((w1.alloc (.cells (ints .u64 [1,2]).toArray 22)).alloc (.cells (ints .u64 [3,4,5]).toArray 22)).heap.size by rw [hs5];omega)
 have hLb:=RdU.lit (w1.alloc (.cells (ints .u64 [1,2]).toArray 22)) [3,4,5]
 rw [hs4] at hLb
 have hF2:=(HF.out.below hB5).mono hB5.size
 have hR:=zF9 (p:=97) hF2 (some ⟨w1.heap.size,0,none⟩) (some ⟨w1.heap.size+1,0,none⟩) 2 3 [1,2] [3,4,5] (by decide) (by decide) (by decide) (fun x hx=>by simp at hx;omega) (fun x hx=>by simp at hx;omega) hLa (by rw [hs5];exact hLb) (by decide) (by decide)
 refine hR.mono ?_
 rintro r w2 ⟨V2,rfl,hO2,hB6⟩
 have hO2':OwnU w2 _ V2 4 (lst 4 (drc 97 [1,2] [3,4,5])):=hO2
 rw [zB9] at hO2'
 have hB6':=hB5.trans (hB6.mono hB5.size)
 have hBy:=hB1.trans (hB6'.mono hB1.size)
 obtain ⟨A2,c2,rfl,hRd2⟩:=hO2'.rd
 have HF2:=Lib.hid ((HF.out.below hB6').mono hB6'.size)
 clear hB4 hs4 hB5' hB5 hs5 hLa hLb hF2 hR hB6 hB6' hO2 hO2' HF hB1
 go_wp2_with fail
 have hB4:=(Below.refl w2.heap.size w2).alloc (Nat.le_refl _) (.cells (ints .u64 [1,2,0]).toArray 22)
 have hs4:(w2.alloc (.cells (ints .u64 [1,2,0]).toArray 22)).heap.size=w2.heap.size+1:=by simp
 have hB5':=(Below.refl (w2.alloc (.cells (ints .u64 [1,2,0]).toArray 22)).heap.size (w2.alloc (.cells (ints .u64 [1,2,0]).toArray 22))).alloc (Nat.le_refl _) (.cells (ints .u64 [3,4,5]).toArray 22)
 have hB5:=hB4.trans (hB5'.mono hB4.size)
 have hs5:((w2.alloc (.cells (ints .u64 [1,2,0]).toArray 22)).alloc (.cells (ints .u64 [3,4,5]).toArray 22)).heap.size=w2.heap.size+1+1:=by simp
 have hLa:=((RdU.lit w2 [1,2,0]).below (by rw [hs4] at hB5';exact hB5')).mono (show w2.heap.size+1≤((w2.alloc (.cells (ints .u64 [1,2,0]).toArray 22)).alloc (.cells (ints .u64 [3,4,5]).toArray 22)).heap.size by rw [hs5];omega)
 have hLb:=RdU.lit (w2.alloc (.cells (ints .u64 [1,2,0]).toArray 22)) [3,4,5]
 rw [hs4] at hLb
 have hF2:=(HF2.out.below hB5).mono hB5.size
 have hR:=zBb (p:=97) zPd HC.out (by omega) (by omega) _ (Nat.le_refl _) hF2 (some ⟨w2.heap.size,0,none⟩) (some ⟨w2.heap.size+1,0,none⟩) 3 3 [1,2,0] [3,4,5] (-1) (fun x hx=>by simp at hx;omega) (fun x hx=>by simp at hx;omega) hLa (by rw [hs5];exact hLb) zBC
  (.pointer none) _ zCu (zBE 3 (-1) (by decide) _) ⟨hF2,Nat.le_refl _⟩
 refine hR.mono ?_
 rintro r w3 ⟨V3,rfl,hO3,hB6,_⟩
 have hO3':OwnU w3 _ V3 3 (lst 3 (rnd 97 [1,2,0] [3,4,5])):=hO3
 rw [zBD] at hO3'
 have hB6':=hB5.trans (hB6.mono hB5.size)
 have hBz:=hBy.trans (hB6'.mono hBy.size)
 obtain ⟨A3,c3,rfl,hRd3⟩:=hO3'.rd
 have hRd:=(hRd2.below hB6').mono hB6'.size
 clear hB4 hs4 hB5' hB5 hs5 hLa hLb hF2 hR hB6 hB6' hO3 hO3' HF2 hBy hRd2
 go_wp2_with fail
 have hL2:=RdU.lit w3 [3,10,13,10]
 have hB4:=(Below.refl w3.heap.size w3).alloc (Nat.le_refl _) (.cells (ints .u64 [3,10,13,10]).toArray 22)
 refine (zSV A2 (some ⟨w3.heap.size,0,none⟩) c2 4 (w3.heap.size+1) [3,10,13,10] [3,10,13,10] _ (by simp) (by simp) ((hRd.below hB4).mono (Nat.le_succ _)) hL2).mono ?_
 rintro r w4 ⟨rfl,hB5⟩
 have hB7:=hB4.trans (hB5.mono hB4.size)
 have hBf:=hBz.trans (hB7.mono hBz.size)
 have hRd4:=(hRd3.below hB7).mono hB7.size
 clear hL2 hB4 hRd hRd3 hB5 hB7 hBz
 go_wp2_with fail
 have hL2:=RdU.lit w4 [13,10,13]
 have hB4:=(Below.refl w4.heap.size w4).alloc (Nat.le_refl _) (.cells (ints .u64 [13,10,13]).toArray 22)
 refine (zSV A3 (some ⟨w4.heap.size,0,none⟩) c3 3 (w4.heap.size+1) [13,10,13] [13,10,13] _ (by simp) (by simp) ((hRd4.below hB4).mono (Nat.le_succ _)) hL2).mono ?_
 rintro r w5 ⟨rfl,hB5⟩
 have hB7:=hB4.trans (hB5.mono hB4.size)
 have hBg:=hBf.trans (hB7.mono hBf.size)
 clear hL2 hB4 hRd4 hB5 hB7 hBf
 go_wp2
 go_ret
 exact ⟨by first|rfl|simp,hBg⟩
end

section
/- The document's errors of a product round and round. -/
open Go.RowKit
open Alg
set_option maxHeartbeats 2000000 in
theorem zDU (AA AB:Option Addr) (cA cB:Nat) (p k:Int) (p1:3≤p) (p2':p<9223372036854775808) (L M:List Int) (w:World) (hl:L.length≤140737488351232) (hm:M.length≤140737488351232) (hA:RdI w w.heap.size .u64 AA L) (hB:RdI w w.heap.size .u64 AB M):
  Calls Tryz.prog 36 #[.int .u64 p, .slice AA L.length cA, .slice AB M.length cB, .int .i64 k] w fun e w'=>e= .returned (.int .i64 (rndf p k L M))∧Below w.heap.size w w':=by
 have HGd:Hid (∀W,Below w.heap.size w W→Calls Tryz.prog 77 #[.int .u64 p, .slice AA L.length cA, .slice AB M.length cB] W fun e w'=>e= .returned (.bool (zI1 p L && zI1 p M))∧W=w'):=Lib.hid (fun W hW=>zQb AA AB cA cB W.heap.size p L M W hl hm ((hA.below hW).mono hW.size) ((hB.below hW).mono hW.size))
 have HCh:=Lib.hid (zPK p (L.length:Int) k p1 p2' (by omega) (by omega) w)
 obtain ⟨gd,hgd⟩: ∃gd,gd=(zI1 p L && zI1 p M):=⟨_,rfl⟩
 have hd:Hid (rndf p k L M=if L.length≠M.length then 1 else if chE p L.length k≠0 then chE p L.length k else if gd=false then 9 else 0):=Lib.hid (by rw [hgd];rfl)
 rw [←hgd] at HGd
 obtain ⟨z,hz⟩: ∃z,z=rndf p k L M:=⟨_,rfl⟩
 rw [←hz] at hd ⊢
 obtain ⟨er,he⟩: ∃er,er=chE p L.length k:=⟨_,rfl⟩
 rw [←he] at hd HCh
 obtain ⟨⟨x0,x1,x2⟩,hx⟩: ∃x,x=chP p L.length k:=⟨_,rfl⟩
 rw [←hx] at HCh
 obtain ⟨a,ha⟩: ∃a,a=L.length:=⟨_,rfl⟩
 obtain ⟨b,hb⟩: ∃b,b=M.length:=⟨_,rfl⟩
 rw [←ha] at hd HGd HCh hl ⊢
 rw [←hb] at hd HGd hm ⊢
 clear hA hB hgd hz ha hb he hx
 by_cases hab:a=b
 case neg=>
  have hz1:Hid (z=1):=Lib.hid (by rw [hd.out,if_pos hab])
  have t1:((a:Int) != (b:Int))=true:=by simp;omega
  clear hd HGd HCh hab
  go_enter Tryz.func36,Tryz.ntmps36
  go_wp2
  go_ret
  exact ⟨by rw [hz1.out];rfl,Below.refl _ _⟩
 have t1:((a:Int) != (b:Int))=false:=by simp;omega
 have hd1:=hd.out
 rw [if_neg (by omega)] at hd1
 clear hd
 by_cases h0:er=0
 case neg=>
  have hz1:Hid (z=er):=Lib.hid (by rw [hd1,if_pos h0])
  have t2:(er != 0)=true:=by simp [h0]
  clear hd1 HGd hab h0
  go_enter Tryz.func36,Tryz.ntmps36
  go_wp2_with fail
  refine HCh.out.mono ?_
  rintro e w1 ⟨rfl,hB1⟩
  simp only [zD7]
  have L1:=Lib.hid (lay1 w1 27 #[.int .i64 0, .int .i64 0, .int .i64 0])
  have hBs:=hB1.trans ((below_setRow L1.out.2 (Nat.le_refl _) #[.int .i64 x0, .int .i64 x1, .int .i64 x2]).mono hB1.size)
  have HBs:=Lib.hid hBs
  clear hBs hB1 HCh
  go_wp2_with (refine wpList_store_row rfl _ _ _ rfl _ _ rfl rfl _ _ (L1.out.1) (by exact zT6) rfl (zOs _ _ _) ?_)
  go_ret
  exact ⟨by rw [hz1.out];rfl,HBs.out⟩
 rw [if_neg (by simp [h0])] at hd1
 subst h0
 have HD:=Lib.hid hd1
 clear hd1 hab
 cases gd
 all_goals
  go_enter Tryz.func36,Tryz.ntmps36
  go_wp2_with fail
  refine HCh.out.mono ?_
  rintro e w1 ⟨rfl,hB1⟩
  simp only [zD7]
  have L1:=Lib.hid (lay1 w1 27 #[.int .i64 0, .int .i64 0, .int .i64 0])
  have hBs:=hB1.trans ((below_setRow L1.out.2 (Nat.le_refl _) #[.int .i64 x0, .int .i64 x1, .int .i64 x2]).mono hB1.size)
  have HBs:=Lib.hid hBs
  clear hBs hB1 HCh
  go_wp2_with (refine wpList_store_row rfl _ _ _ rfl _ _ rfl rfl _ _ (L1.out.1) (by exact zT6) rfl (zOs _ _ _) ?_)
  refine (HGd.out _ HBs.out).mono ?_
  rintro e w2 ⟨rfl,rfl⟩
  go_wp2
  go_ret
  exact ⟨by rw [HD.out];rfl,HBs.out⟩
end
end Go.Proofs.YtmalmijdjhkklaaGreat
