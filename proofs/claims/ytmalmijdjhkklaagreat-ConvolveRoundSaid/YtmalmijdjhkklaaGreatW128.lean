/- plan.Run. -/
import Derived.Test.YtmalmijdjhkklaaGreatW95
import Derived.Test.YtmalmijdjhkklaaGreatW115
import Derived.Test.YtmalmijdjhkklaaGreatRaR
import Derived.Test.YtmalmijdjhkklaaGreatChR
import Derived.Test.YtmalmijdjhkklaaGreatRad4F
import Derived.Test.YtmalmijdjhkklaaGreatW59
import Derived.Test.YtmalmijdjhkklaaGreatW67
import Derived.Test.YtmalmijdjhkklaaGreatW52
import Derived.Test.YtmalmijdjhkklaaGreatW10
set_option linter.unusedVariables false
set_option linter.unusedSimpArgs false
set_option maxRecDepth 100000
set_option maxHeartbeats 16000000
namespace Go.Proofs.YtmalmijdjhkklaaGreat
open Go.RowKit
section
open Alg
def RunQ (p:Nat) [NeZero p] (g:Int) (L:List Int) (inv:Bool) (er:Int) (B:Nat) (V:Value) (w':World):Prop:=
 (er=0∧OwnU w' B V L.length (lst L.length (tr (zt p g) L.length inv (rz p L))))∨(er≠0∧V= .slice none 0 0)
theorem RunQ.mono {p:Nat} [NeZero p] {g:Int} {L:List Int} {inv:Bool} {er:Int} {B B':Nat} {V:Value} {w':World} (h:RunQ p g L inv er B V w') (hb:B'≤B):RunQ p g L inv er B' V w':=h.imp (fun h=>⟨h.1,h.2.mono hb⟩) id
def zI4 (p:Int) (L:List Int):Int:=if zI1 p L=false then 9 else 0
def CalP (p:Nat) [NeZero p] (g:Int) (L:List Int) (inv:Bool) (F:FuncId) (args:Array Value) (w:World):Prop:=
 Calls Tryz.prog F args w fun e w'=> ∃V,e= .returned (.tuple #[V, .int .i64 (zI4 p L)])∧RunQ p g L inv (zI4 p L) w.heap.size V w'∧Below w.heap.size w w'
theorem zCU {p:Nat} [NeZero p] {g:Int} {L:List Int} {inv:Bool} {F:FuncId} {args:Array Value} {w:World} {f:Int} (hf:f=zI4 p L)
  (hy:f=0→Calls Tryz.prog F args w fun e w'=> ∃V,e= .returned (.tuple #[V, .int .i64 0])∧OwnU w' w.heap.size V L.length (lst L.length (tr (zt p g) L.length inv (rz p L)))∧Below w.heap.size w w')
  (hn:f≠0→Calls Tryz.prog F args w fun e w'=>e= .returned (.tuple #[.slice none 0 0, .int .i64 f])∧Below w.heap.size w w'):CalP p g L inv F args w:=by
 unfold CalP
 by_cases h0:f=0
 ·refine (hy h0).mono ?_
  rintro e w' ⟨V,he,ho,hb⟩
  exact ⟨V,by rw [←hf,h0];exact he, .inl ⟨by rw [←hf];exact h0,ho⟩,hb⟩
 ·refine (hn h0).mono ?_
  rintro e w' ⟨he,hb⟩
  exact ⟨_,by rw [←hf];exact he, .inr ⟨by rw [←hf];exact h0,rfl⟩,hb⟩
theorem zSW {P:Program} {F:FuncId} {args:Array Value} {w:World} {x:Ending} (h:Calls P F args w fun e w'=>e=x∧w=w'):Calls P F args w fun e w'=>e=x∧Below w.heap.size w w':=
 h.mono fun e w' ⟨he,hw⟩=>⟨he,hw ▸ Below.refl _ _⟩
theorem zCX {p:Nat} [NeZero p] {w:World} {v:Value} {g:Int} (hp:Prime p) (hg:Ord (zt p g) (p-1)) (g0:0≤g) (g1:g<p) (h:Fd w w.heap.size v p g) (A:Option Addr) (c:Nat) (L:List Int) (inv:Bool) (hU:U64s L) (hR:RdI w w.heap.size .u64 A L) (hl:L.length≤140737488351232) (hc:chk p L.length 1024=0):CalP p g L inv 69 #[v, .slice A L.length c, .bool inv] w:=
 zCU (f:=zGB p L) (by unfold zGB zI4;rw [if_neg (by simp [hc])]) (fun hf=>zF2 hp hg g0 g1 h A c L inv hU hR hf) (fun hf=>zSW (zF1 h A c L inv hl hU hR hf))
theorem zCY {p:Nat} [NeZero p] {w:World} {v:Value} {g:Int} (hp:Prime p) (hg:Ord (zt p g) (p-1)) (g0:0≤g) (g1:g<p) (h:Fd w w.heap.size v p g) (A:Option Addr) (c:Nat) (L:List Int) (inv:Bool) (hU:U64s L) (hR:RdI w w.heap.size .u64 A L) (hl:L.length≤140737488351232) (hc:chk p L.length 1024=0) (h2:p2 L.length=true):CalP p g L inv 63 #[v, .slice A L.length c, .bool inv] w:=
 zCU (f:=zGD p L) (by unfold zGD zI4;rw [if_neg (by simp [zEp hc]),if_neg (by simp [h2])]) (fun hf=>zFT hp hg g0 g1 h A c L inv hU hR hf) (fun hf=>zSW (zFS h A c L inv hl hU hR hf))
theorem zCZ {p:Nat} [NeZero p] {w:World} {v:Value} {g:Int} (hp:Prime p) (hg:Ord (zt p g) (p-1)) (g0:0≤g) (g1:g<p) (h:Fd w w.heap.size v p g) (A:Option Addr) (c:Nat) (L:List Int) (inv:Bool) (hU:U64s L) (hR:RdI w w.heap.size .u64 A L) (hl:L.length≤140737488351232) (hc:chk p L.length 1024=0) (h2:p2 L.length=true):CalP p g L inv 64 #[v, .slice A L.length c, .bool inv] w:=
 zCU (f:=zGD p L) (by unfold zGD zI4;rw [if_neg (by simp [zEp hc]),if_neg (by simp [h2])]) (fun hf=>zQ6 hp hg g0 g1 h A c L inv hU hR hf) (fun hf=>zSW (zQ5 h A c L inv hl hU hR hf))
theorem zDa {p:Nat} [NeZero p] {w:World} {v:Value} {g:Int} (hp:Prime p) (hg:Ord (zt p g) (p-1)) (g0:0≤g) (g1:g<p) (h:Fd w w.heap.size v p g) (A:Option Addr) (c:Nat) (L:List Int) (inv:Bool) (hU:U64s L) (hR:RdI w w.heap.size .u64 A L) (hl:L.length≤140737488351232) (hc:chk p L.length 1024=0) (h2:zQD L.length=true):CalP p g L inv 65 #[v, .slice A L.length c, .bool inv] w:=
 zCU (f:=zGN p L) (by unfold zGN zI4;rw [if_neg (by simp [hc]),if_neg (by simp [h2])]) (fun hf=>zL9 hp hg g0 g1 h A c L inv hU hR hf) (fun hf=>(zL8 h A c L inv hl hU hR hf))
theorem zCW {p:Nat} [NeZero p] {w:World} {v:Value} {g:Int} (hp:Prime p) (hg:Ord (zt p g) (p-1)) (g0:0≤g) (g1:g<p) (h:Fd w w.heap.size v p g) (A:Option Addr) (c:Nat) (L:List Int) (inv:Bool) (hU:U64s L) (hR:RdI w w.heap.size .u64 A L) (a:Int) (a0: -9223372036854775808≤a) (a1:a≤9223372036854775807) (hl:L.length≤140737488351232) (hc:chk p L.length 1024=0) (h2:copB L.length a=true):CalP p g L inv 66 #[v, .slice A L.length c, .int .i64 a, .bool inv] w:=
 zCU (f:=zGL p L a) (by unfold zGL zI4;rw [if_neg (by simp [hc]),if_neg (by simp [h2])]) (fun hf=>zEI hp hg g0 g1 h A c L a inv hU hR hf) (fun hf=>(zEH h A c L a a0 a1 inv hl hU hR hf))
theorem zDb {p:Nat} [NeZero p] {w:World} {v:Value} {g:Int} (hp:Prime p) (hg:Ord (zt p g) (p-1)) (g0:0≤g) (g1:g<p) (h:Fd w w.heap.size v p g) (A:Option Addr) (c:Nat) (L:List Int) (inv:Bool) (hU:U64s L) (hR:RdI w w.heap.size .u64 A L) (hl:L.length≤140737488351232) (hc:chk p L.length 1024=0) (h2:fitR (rpad L.length) p=true):CalP p g L inv 67 #[v, .slice A L.length c, .bool inv] w:=
 zCU (f:=zGP (rpad L.length) p L) (by unfold zGP zI4;rw [if_neg (by simp [hc]),if_neg (by simp [h2])]) (fun hf=>zRn hp hg g0 g1 h A c L inv hU hR hf) (fun hf=>(zRm h A c L inv hl hU hR hf))
theorem zCV {p:Nat} [NeZero p] {w:World} {v:Value} {g:Int} (hp:Prime p) (hg:Ord (zt p g) (p-1)) (g0:0≤g) (g1:g<p) (h:Fd w w.heap.size v p g) (A:Option Addr) (c:Nat) (L:List Int) (inv:Bool) (hU:U64s L) (hR:RdI w w.heap.size .u64 A L) (hl:L.length≤140737488351232) (hc:chk p L.length 1024=0) (h2:fitR (cpad L.length) p=true):CalP p g L inv 68 #[v, .slice A L.length c, .bool inv] w:=
 zCU (f:=zGP (cpad L.length) p L) (by unfold zGP zI4;rw [if_neg (by simp [hc]),if_neg (by simp [h2])]) (fun hf=>zEy hp hg g0 g1 h A c L inv hU hR hf) (fun hf=>(zEx h A c L inv hl hU hR hf))
noncomputable def errP (p K N M:Int) (L:List Int):Int:=if (L.length:Int)≠N∨N<1 then 1 else if fitI p K N M≠0 then fitI p K N M else zI4 p L
theorem zHg {p K N M:Int} (h:fitI p K N M=0):chk p N 1024=0:=by
 unfold fitI at h
 split at h
 ·rename_i h1;exact absurd h h1
 ·rename_i h1;simpa using h1
theorem zHf {p K N M:Int} (h:fitI p K N M=0):canB K N M=true:=by
 unfold fitI at h
 split at h
 ·rename_i h1;exact absurd h h1
 ·split at h
  ·omega
  ·rename_i h2
   cases hc:canB K N M with
   | true=>rfl
   | false=>exact absurd (.inl hc) h2
theorem zHl {p K N M:Int} (h:fitI p K N M=0) (hK:5≤K):fitR M p=true:=by
 unfold fitI at h
 split at h
 ·rename_i h1;exact absurd h h1
 ·split at h
  ·omega
  ·rename_i h2
   cases hc:fitR M p with
   | true=>rfl
   | false=>exact absurd (.inr ⟨hK,hc⟩) h2
theorem zPr {p:Nat} [NeZero p] {w:World} {v:Value} {g:Int} (hp:Prime p) (hg:Ord (zt p g) (p-1)) (g0:0≤g) (g1:g<p) (h:Fd w w.heap.size v p g) (A:Option Addr) (c:Nat) (L:List Int) (inv:Bool) (hU:U64s L) (hR:RdI w w.heap.size .u64 A L) (K N M:Int) (k0: -9223372036854775808≤K) (k1:K≤9223372036854775807) (n0: -9223372036854775808≤N) (n1:N≤9223372036854775807) (a0: -9223372036854775808≤M) (a1:M≤9223372036854775807) (hl:L.length≤140737488351232):
  Calls Tryz.prog 27 #[v, .agg #[.int .i64 K, .int .i64 N, .int .i64 M], .slice A L.length c, .bool inv] w fun e w'=> ∃V,e= .returned (.tuple #[V, .int .i64 (errP p K N M L)])∧RunQ p g L inv (errP p K N M L) w.heap.size V w'∧Below w.heap.size w w':=by
 obtain ⟨fb,rfl⟩: ∃fb,v= .pointer (some ⟨fb,0,none⟩):=by
  obtain ⟨b,c,t,o,s,sv,hv,_⟩:=h
  exact ⟨b,hv⟩
 have HFd:=zy h
 have HR:=zy hR
 have R1:=zy (lay1 w 36 #[.int .i64 K, .int .i64 N, .int .i64 M])
 have HF:=zy (fun wz (hz:Below w.heap.size w wz)=>zOe ((h.below hz).mono hz.size) K N M k0 k1 n0 n1 a0 a1)
 by_cases hLN:(L.length:Int)≠N∨N<1
 ·have he:Hid (errP p K N M L=1):=zy (by unfold errP;rw [if_pos hLN])
  have hQ:Hid (∀wz,RunQ p g L inv 1 w.heap.size (.slice none 0 0) wz):=zy (fun wz=> .inr ⟨by decide,rfl⟩)
  rw [he.out]
  obtain ⟨ft,hft⟩: ∃ft,ft=fitI p K N M:=⟨_,rfl⟩
  rw [←hft] at HF
  by_cases h1:(L.length:Int)=N
  ·have t1:((L.length:Int) != N)=false:=by simpa using h1
   have t2:decide (N<1)=true:=decide_eq_true (by omega)
   clear h hR hft hLN h1 he
   go_enter Tryz.func27,Tryz.ntmps27
   go_wp2_with (refine wpList_load_row rfl _ _ rfl _ rfl _ _ _ _ (R1.out.1) Tryz.underlying36 rfl (by exact zT5) ?_)
   refine (HF.out _ R1.out.2).mono ?_
   rintro e w2 ⟨rfl,hB2⟩
   have d1:=(R1.out.1.keep hB2).cell (i:=1) (v:= .int .i64 N) rfl
   have HB:=zy (R1.out.2.trans (hB2.mono R1.out.2.size))
   clear hB2
   go_wp2
   go_ret2
   exact ⟨_,rfl,hQ.out _,HB.out⟩
  ·have t1:((L.length:Int) != N)=true:=by simpa using h1
   clear h hR hft hLN h1 he
   go_enter Tryz.func27,Tryz.ntmps27
   go_wp2_with (refine wpList_load_row rfl _ _ rfl _ rfl _ _ _ _ (R1.out.1) Tryz.underlying36 rfl (by exact zT5) ?_)
   refine (HF.out _ R1.out.2).mono ?_
   rintro e w2 ⟨rfl,hB2⟩
   have d1:=(R1.out.1.keep hB2).cell (i:=1) (v:= .int .i64 N) rfl
   have HB:=zy (R1.out.2.trans (hB2.mono R1.out.2.size))
   clear hB2
   go_wp2
   go_ret2
   exact ⟨_,rfl,hQ.out _,HB.out⟩
 ·obtain ⟨n,hn⟩: ∃n,n=L.length:=⟨_,rfl⟩
  obtain rfl:N=(n:Int):=by omega
  have t1:((n:Int) != (n:Int))=false:=by simp
  have t2:decide ((n:Int)<1)=false:=decide_eq_false (by omega)
  have t2b:decide (n<1)=false:=decide_eq_false (by omega)
  by_cases hft:fitI p K n M=0
  ·have he:errP p K n M L=zI4 p L:=by unfold errP;rw [if_neg hLN,if_neg (by simp [hft])]
   rw [hft] at HF
   rw [he]
   have hc:=zHg hft
   have hcan:=zHf hft
   have hKr:=zDd hcan
   have hc2:=hcan
   rw [zDg (zDe hcan)] at hc2
   have hcL:chk p L.length 1024=0:=by rw [←hn];exact hc
   have HC2:=zy hc2
   have HFt:=zy hft
   have HcL:=zy hcL
   rw [←hn]
   clear hc2 hft hcL hcan hc he hLN
   rcases (show K=0∨K=1∨K=2∨K=3∨K=4∨K=5∨K=6 by omega) with hK|hK|hK|hK|hK|hK|hK
   ·have t1:(K == 1)=false:=by simp;omega
    have t2:(K == 2)=false:=by simp;omega
    have t3:(K == 3)=false:=by simp;omega
    have t4:(K == 4)=false:=by simp;omega
    have t5:(K == 5)=false:=by simp;omega
    have t6:(K == 6)=false:=by simp;omega
    have HC:=zy (fun (wz:World) (hz:Below w.heap.size w wz)=>zCX hp hg g0 g1 ((HFd.out.below hz).mono hz.size) A c L inv hU ((HR.out.below hz).mono hz.size) hl HcL.out)
    unfold CalP at HC
    rw [←hn] at HC
    clear hK h hR hKr HC2 HFt HcL hn hl
    go_enter Tryz.func27,Tryz.ntmps27
    go_wp2_with (refine wpList_load_row rfl _ _ rfl _ rfl _ _ _ _ (R1.out.1) Tryz.underlying36 rfl (by exact zT5) ?_)
    refine (HF.out _ R1.out.2).mono ?_
    rintro e w2 ⟨rfl,hB2⟩
    have R2:=zy (And.intro (R1.out.1.keep hB2) (R1.out.2.trans (hB2.mono R1.out.2.size)))
    clear hB2
    have d0:=R2.out.1.cell (i:=0) (v:= .int .i64 K) rfl
    have d1:=R2.out.1.cell (i:=1) (v:= .int .i64 (n:Int)) rfl
    have d2:=R2.out.1.cell (i:=2) (v:= .int .i64 M) rfl
    go_wp2_with fail
    refine (HC.out w2 R2.out.2).mono ?_
    rintro e w3 ⟨V,rfl,hQ,hB3⟩
    have HQ:=zy (hQ.mono R2.out.2.size)
    have HB3:=zy (R2.out.2.trans (hB3.mono R2.out.2.size))
    clear hQ hB3 d0 d1 d2
    go_wp2
    go_ret2
    exact ⟨_,rfl,HQ.out,HB3.out⟩
   ·have hP:p2 L.length=true:=by
     rw [←hn];subst hK;have hc2:=HC2.out;simp at hc2;exact hc2.2
    have t1:(K == 1)=true:=by simp;omega
    have HC:=zy (fun (wz:World) (hz:Below w.heap.size w wz)=>zCY hp hg g0 g1 ((HFd.out.below hz).mono hz.size) A c L inv hU ((HR.out.below hz).mono hz.size) hl HcL.out hP)
    unfold CalP at HC
    rw [←hn] at HC
    clear hK h hR hKr HC2 HFt HcL hn hl hP
    go_enter Tryz.func27,Tryz.ntmps27
    go_wp2_with (refine wpList_load_row rfl _ _ rfl _ rfl _ _ _ _ (R1.out.1) Tryz.underlying36 rfl (by exact zT5) ?_)
    refine (HF.out _ R1.out.2).mono ?_
    rintro e w2 ⟨rfl,hB2⟩
    have R2:=zy (And.intro (R1.out.1.keep hB2) (R1.out.2.trans (hB2.mono R1.out.2.size)))
    clear hB2
    have d0:=R2.out.1.cell (i:=0) (v:= .int .i64 K) rfl
    have d1:=R2.out.1.cell (i:=1) (v:= .int .i64 (n:Int)) rfl
    have d2:=R2.out.1.cell (i:=2) (v:= .int .i64 M) rfl
    go_wp2_with fail
    refine (HC.out w2 R2.out.2).mono ?_
    rintro e w3 ⟨V,rfl,hQ,hB3⟩
    have HQ:=zy (hQ.mono R2.out.2.size)
    have HB3:=zy (R2.out.2.trans (hB3.mono R2.out.2.size))
    clear hQ hB3 d0 d1 d2
    go_wp2
    go_ret2
    exact ⟨_,rfl,HQ.out,HB3.out⟩
   ·have hP:p2 L.length=true:=by
     rw [←hn];subst hK;have hc2:=HC2.out;simp at hc2;exact hc2.2
    have t1:(K == 1)=false:=by simp;omega
    have t2:(K == 2)=true:=by simp;omega
    have HC:=zy (fun (wz:World) (hz:Below w.heap.size w wz)=>zCZ hp hg g0 g1 ((HFd.out.below hz).mono hz.size) A c L inv hU ((HR.out.below hz).mono hz.size) hl HcL.out hP)
    unfold CalP at HC
    rw [←hn] at HC
    clear hK h hR hKr HC2 HFt HcL hn hl hP
    go_enter Tryz.func27,Tryz.ntmps27
    go_wp2_with (refine wpList_load_row rfl _ _ rfl _ rfl _ _ _ _ (R1.out.1) Tryz.underlying36 rfl (by exact zT5) ?_)
    refine (HF.out _ R1.out.2).mono ?_
    rintro e w2 ⟨rfl,hB2⟩
    have R2:=zy (And.intro (R1.out.1.keep hB2) (R1.out.2.trans (hB2.mono R1.out.2.size)))
    clear hB2
    have d0:=R2.out.1.cell (i:=0) (v:= .int .i64 K) rfl
    have d1:=R2.out.1.cell (i:=1) (v:= .int .i64 (n:Int)) rfl
    have d2:=R2.out.1.cell (i:=2) (v:= .int .i64 M) rfl
    go_wp2_with fail
    refine (HC.out w2 R2.out.2).mono ?_
    rintro e w3 ⟨V,rfl,hQ,hB3⟩
    have HQ:=zy (hQ.mono R2.out.2.size)
    have HB3:=zy (R2.out.2.trans (hB3.mono R2.out.2.size))
    clear hQ hB3 d0 d1 d2
    go_wp2
    go_ret2
    exact ⟨_,rfl,HQ.out,HB3.out⟩
   ·have hP:zQD L.length=true:=by
     rw [←hn];subst hK;have hc2:=HC2.out;simp at hc2;exact hc2.2
    have t1:(K == 1)=false:=by simp;omega
    have t2:(K == 2)=false:=by simp;omega
    have t3:(K == 3)=true:=by simp;omega
    have HC:=zy (fun (wz:World) (hz:Below w.heap.size w wz)=>zDa hp hg g0 g1 ((HFd.out.below hz).mono hz.size) A c L inv hU ((HR.out.below hz).mono hz.size) hl HcL.out hP)
    unfold CalP at HC
    rw [←hn] at HC
    clear hK h hR hKr HC2 HFt HcL hn hl hP
    go_enter Tryz.func27,Tryz.ntmps27
    go_wp2_with (refine wpList_load_row rfl _ _ rfl _ rfl _ _ _ _ (R1.out.1) Tryz.underlying36 rfl (by exact zT5) ?_)
    refine (HF.out _ R1.out.2).mono ?_
    rintro e w2 ⟨rfl,hB2⟩
    have R2:=zy (And.intro (R1.out.1.keep hB2) (R1.out.2.trans (hB2.mono R1.out.2.size)))
    clear hB2
    have d0:=R2.out.1.cell (i:=0) (v:= .int .i64 K) rfl
    have d1:=R2.out.1.cell (i:=1) (v:= .int .i64 (n:Int)) rfl
    have d2:=R2.out.1.cell (i:=2) (v:= .int .i64 M) rfl
    go_wp2_with fail
    refine (HC.out w2 R2.out.2).mono ?_
    rintro e w3 ⟨V,rfl,hQ,hB3⟩
    have HQ:=zy (hQ.mono R2.out.2.size)
    have HB3:=zy (R2.out.2.trans (hB3.mono R2.out.2.size))
    clear hQ hB3 d0 d1 d2
    go_wp2
    go_ret2
    exact ⟨_,rfl,HQ.out,HB3.out⟩
   ·have hP:copB L.length M=true:=by
     rw [←hn];subst hK;have hc2:=HC2.out;simp at hc2;exact hc2
    have t1:(K == 1)=false:=by simp;omega
    have t2:(K == 2)=false:=by simp;omega
    have t3:(K == 3)=false:=by simp;omega
    have t4:(K == 4)=true:=by simp;omega
    have HC:=zy (fun (wz:World) (hz:Below w.heap.size w wz)=>zCW hp hg g0 g1 ((HFd.out.below hz).mono hz.size) A c L inv hU ((HR.out.below hz).mono hz.size) M a0 a1 hl HcL.out hP)
    unfold CalP at HC
    rw [←hn] at HC
    clear hK h hR hKr HC2 HFt HcL hn hl hP
    go_enter Tryz.func27,Tryz.ntmps27
    go_wp2_with (refine wpList_load_row rfl _ _ rfl _ rfl _ _ _ _ (R1.out.1) Tryz.underlying36 rfl (by exact zT5) ?_)
    refine (HF.out _ R1.out.2).mono ?_
    rintro e w2 ⟨rfl,hB2⟩
    have R2:=zy (And.intro (R1.out.1.keep hB2) (R1.out.2.trans (hB2.mono R1.out.2.size)))
    clear hB2
    have d0:=R2.out.1.cell (i:=0) (v:= .int .i64 K) rfl
    have d1:=R2.out.1.cell (i:=1) (v:= .int .i64 (n:Int)) rfl
    have d2:=R2.out.1.cell (i:=2) (v:= .int .i64 M) rfl
    go_wp2_with fail
    refine (HC.out w2 R2.out.2).mono ?_
    rintro e w3 ⟨V,rfl,hQ,hB3⟩
    have HQ:=zy (hQ.mono R2.out.2.size)
    have HB3:=zy (R2.out.2.trans (hB3.mono R2.out.2.size))
    clear hQ hB3 d0 d1 d2
    go_wp2
    go_ret2
    exact ⟨_,rfl,HQ.out,HB3.out⟩
   ·have hP:fitR (rpad L.length) p=true:=by
     have h5:=zHl HFt.out (by omega)
     rw [←hn];subst hK;have hc2:=HC2.out;simp at hc2;rw [←hc2.2];exact h5
    have t1:(K == 1)=false:=by simp;omega
    have t2:(K == 2)=false:=by simp;omega
    have t3:(K == 3)=false:=by simp;omega
    have t4:(K == 4)=false:=by simp;omega
    have t5:(K == 5)=true:=by simp;omega
    have HC:=zy (fun (wz:World) (hz:Below w.heap.size w wz)=>zDb hp hg g0 g1 ((HFd.out.below hz).mono hz.size) A c L inv hU ((HR.out.below hz).mono hz.size) hl HcL.out hP)
    unfold CalP at HC
    rw [←hn] at HC
    clear hK h hR hKr HC2 HFt HcL hn hl hP
    go_enter Tryz.func27,Tryz.ntmps27
    go_wp2_with (refine wpList_load_row rfl _ _ rfl _ rfl _ _ _ _ (R1.out.1) Tryz.underlying36 rfl (by exact zT5) ?_)
    refine (HF.out _ R1.out.2).mono ?_
    rintro e w2 ⟨rfl,hB2⟩
    have R2:=zy (And.intro (R1.out.1.keep hB2) (R1.out.2.trans (hB2.mono R1.out.2.size)))
    clear hB2
    have d0:=R2.out.1.cell (i:=0) (v:= .int .i64 K) rfl
    have d1:=R2.out.1.cell (i:=1) (v:= .int .i64 (n:Int)) rfl
    have d2:=R2.out.1.cell (i:=2) (v:= .int .i64 M) rfl
    go_wp2_with fail
    refine (HC.out w2 R2.out.2).mono ?_
    rintro e w3 ⟨V,rfl,hQ,hB3⟩
    have HQ:=zy (hQ.mono R2.out.2.size)
    have HB3:=zy (R2.out.2.trans (hB3.mono R2.out.2.size))
    clear hQ hB3 d0 d1 d2
    go_wp2
    go_ret2
    exact ⟨_,rfl,HQ.out,HB3.out⟩
   ·have hP:fitR (cpad L.length) p=true:=by
     have h5:=zHl HFt.out (by omega)
     rw [←hn];subst hK;have hc2:=HC2.out;simp at hc2;rw [←hc2];exact h5
    have t1:(K == 1)=false:=by simp;omega
    have t2:(K == 2)=false:=by simp;omega
    have t3:(K == 3)=false:=by simp;omega
    have t4:(K == 4)=false:=by simp;omega
    have t5:(K == 5)=false:=by simp;omega
    have t6:(K == 6)=true:=by simp;omega
    have HC:=zy (fun (wz:World) (hz:Below w.heap.size w wz)=>zCV hp hg g0 g1 ((HFd.out.below hz).mono hz.size) A c L inv hU ((HR.out.below hz).mono hz.size) hl HcL.out hP)
    unfold CalP at HC
    rw [←hn] at HC
    clear hK h hR hKr HC2 HFt HcL hn hl hP
    go_enter Tryz.func27,Tryz.ntmps27
    go_wp2_with (refine wpList_load_row rfl _ _ rfl _ rfl _ _ _ _ (R1.out.1) Tryz.underlying36 rfl (by exact zT5) ?_)
    refine (HF.out _ R1.out.2).mono ?_
    rintro e w2 ⟨rfl,hB2⟩
    have R2:=zy (And.intro (R1.out.1.keep hB2) (R1.out.2.trans (hB2.mono R1.out.2.size)))
    clear hB2
    have d0:=R2.out.1.cell (i:=0) (v:= .int .i64 K) rfl
    have d1:=R2.out.1.cell (i:=1) (v:= .int .i64 (n:Int)) rfl
    have d2:=R2.out.1.cell (i:=2) (v:= .int .i64 M) rfl
    go_wp2_with fail
    refine (HC.out w2 R2.out.2).mono ?_
    rintro e w3 ⟨V,rfl,hQ,hB3⟩
    have HQ:=zy (hQ.mono R2.out.2.size)
    have HB3:=zy (R2.out.2.trans (hB3.mono R2.out.2.size))
    clear hQ hB3 d0 d1 d2
    go_wp2
    go_ret2
    exact ⟨_,rfl,HQ.out,HB3.out⟩
  ·have he:errP p K n M L=fitI p K n M:=by unfold errP;rw [if_neg hLN,if_pos hft]
   rw [he]
   obtain ⟨ft,hfe⟩: ∃ft,ft=fitI p K n M:=⟨_,rfl⟩
   rw [←hfe] at HF hft ⊢
   have hQ:Hid (∀wz,RunQ p g L inv ft w.heap.size (.slice none 0 0) wz):=zy (fun wz=> .inr ⟨hft,rfl⟩)
   have t3:(ft != 0)=true:=by simpa using hft
   rw [←hn]
   clear h hR hft hfe he hLN hn hl
   go_enter Tryz.func27,Tryz.ntmps27
   go_wp2_with (refine wpList_load_row rfl _ _ rfl _ rfl _ _ _ _ (R1.out.1) Tryz.underlying36 rfl (by exact zT5) ?_)
   refine (HF.out _ R1.out.2).mono ?_
   rintro e w2 ⟨rfl,hB2⟩
   have d1:=(R1.out.1.keep hB2).cell (i:=1) (v:= .int .i64 (n:Int)) rfl
   have HB:=zy (R1.out.2.trans (hB2.mono R1.out.2.size))
   clear hB2
   go_wp2
   go_ret2
   exact ⟨_,rfl,hQ.out _,HB.out⟩
end

section
theorem zEV (P N K a b c:Int) (w:World):Calls Tryz.prog 140 #[.pointer none, .agg #[.int .u64 P, .int .i64 N, .int .i64 K], .agg #[.int .i64 a, .int .i64 b, .int .i64 c]] w fun e w'=>e= .returned (.tuple #[])∧Below w.heap.size w w':=by
 have R:=zy (lay2 w 75 36 #[.int .u64 P, .int .i64 N, .int .i64 K] #[.int .i64 a, .int .i64 b, .int .i64 c])
 go_enter Tryz.func140,Tryz.ntmps140
 go_wp2
 refine bodyPost_ret (results_none rfl _ _ _) rfl ?_
 exact ⟨rfl,R.out.2.2⟩
theorem zDG (P N K:Int) (w:World):Calls Tryz.prog 139 #[.pointer none, .agg #[.int .u64 P, .int .i64 N, .int .i64 K]] w fun e w'=>e= .returned (.tuple #[.agg (zD7 (0,0,0)), .bool false])∧Below w.heap.size w w':=by
 have R:=zy (lay3 w 75 36 36 #[.int .u64 P, .int .i64 N, .int .i64 K] #[.int .i64 0, .int .i64 0, .int .i64 0] #[.int .i64 0, .int .i64 0, .int .i64 0])
 have R2:=zy (R.out.2.1.setRow #[.int .i64 0, .int .i64 0, .int .i64 0])
 go_enter Tryz.func139,Tryz.ntmps139
 go_wp2_with (refine wpList_load_row rfl _ _ rfl _ rfl _ _ _ _ (R.out.2.2.1) Tryz.underlying36 rfl (by exact zT5) ?_)
 go_wp2_with (refine wpList_store_row rfl _ _ _ rfl _ _ rfl rfl _ _ (R.out.2.1) (by exact zT5) rfl (zOs _ _ _) ?_)
 refine bodyPost_ret (zR9 rfl _ _ _ _ _ _ rfl R.out.2.1 Tryz.underlying36 rfl (by exact zT5)) (by rfl) ?_
 exact ⟨rfl,R.out.2.2.2⟩
end

section
theorem zT4:(Tryz.prog.info? 75).map (fun i=>i.size)=some 3:=by kernel_rfl
theorem zJR (K N A:Int):((#[.int .u64 K, .int .i64 N, .int .i64 A]:Array Value).all fun v=>v.oneCell')=true:=by simp;exact ⟨rfl,rfl,rfl⟩
theorem zDr {w:World} {q:Option Addr} {p g:Int} (hFd:Fd w w.heap.size (.pointer q) p g) (n k:Int) (n0: -9223372036854775808≤n) (n1:n≤9223372036854775807):
  Calls Tryz.prog 82 #[.pointer none, .pointer q, .int .i64 n, .int .i64 k] w fun e w'=>e= .returned (.tuple #[.agg (zD7 (chP p n k)), .int .i64 (chE p n k)])∧Below w.heap.size w w':=by
 have R1:=zy (lay1 w 36 #[.int .i64 0, .int .i64 0, .int .i64 0])
 have HP:=zy (zG6 (hFd.below R1.out.2))
 have R2:=zy (lay2 w 36 75 #[.int .i64 0, .int .i64 0, .int .i64 0] #[.int .u64 0, .int .i64 0, .int .i64 0])
 have R3:=zy (R2.out.2.1.setRow #[.int .u64 p, .int .i64 n, .int .i64 k])
 have HG:=zy (fun W=>zDG p n k W)
 have HF:=zy hFd
 clear hFd
 go_enter Tryz.func82,Tryz.ntmps82
 go_wp2_with fail
 refine HP.out.mono ?_
 rintro e w1 ⟨rfl,rfl⟩
 go_wp2_with (first|(refine wpList_store_row rfl _ _ _ rfl _ _ rfl rfl _ _ (R2.out.2.1) (by exact zT4) rfl (zJR _ _ _) ?_)|(refine wpList_load_row rfl _ _ rfl _ rfl _ _ _ _ (R3.out) Tryz.underlying75 rfl (by exact zT4) ?_))
 refine (HG.out _).mono ?_
 rintro e w2 ⟨rfl,hB2⟩
 have hlt:w.heap.size+2≤w2.heap.size:=Nat.le_trans (by simp) hB2.size
 have HB2:=zy ((below_setRow R2.out.2.2 (show w.heap.size≤w.heap.size+1 by omega) #[.int .u64 p, .int .i64 n, .int .i64 k]).trans (hB2.mono (by simp;omega)))
 have A0:=zy ((R2.out.1.setRowOther (w.heap.size+1) #[.int .u64 p, .int .i64 n, .int .i64 k] (by omega)).keep hB2)
 have A1:=zy (R3.out.keep hB2)
 clear hB2 R1 R2 R3 HP HG
 have L2:=zy (lay1 w2 36 #[.int .i64 0, .int .i64 0, .int .i64 0])
 go_wp2_with (first|(refine wpList_store_row rfl _ _ _ rfl _ _ rfl rfl _ _ (L2.out.1) (by exact zT5) rfl (zOs _ _ _) ?_))
 have hB3:=below_setRow L2.out.2 (Nat.le_refl _) (zD7 (0,0,0))
 have A0':=zy (A0.out.keep hB3)
 have A1':=zy (A1.out.keep hB3)
 have HB3:=zy (HB2.out.trans (hB3.mono (by omega)))
 clear A0 A1 HB2
 refine (zEr ((HF.out.below HB3.out).mono (by simp;omega)) n k n0 n1).mono ?_
 rintro e w4 ⟨rfl,hB4⟩
 have A0:=zy (A0'.out.keep hB4)
 have A1:=zy (A1'.out.keep hB4)
 have hl4:w.heap.size+3≤w4.heap.size:=Nat.le_trans (by simp;omega) hB4.size
 have HB4:=zy (HB3.out.trans (hB4.mono (by simp;omega)))
 obtain ⟨⟨c0,c1,c2⟩,hc⟩: ∃c,c=chP p n k:=⟨_,rfl⟩
 obtain ⟨er,he⟩: ∃er,er=chE p n k:=⟨_,rfl⟩
 rw [←hc,←he]
 have HC:=zy hc
 have HE:=zy he
 clear hB4 hB3 A0' A1' HB3 L2 hc he HF
 have L4:=zy (lay1 w4 36 #[.int .i64 0, .int .i64 0, .int .i64 0])
 have hB5:=below_setRow L4.out.2 (Nat.le_refl _) (zD7 (c0,c1,c2))
 have A0':=zy (A0.out.keep hB5)
 have A1':=zy (A1.out.keep hB5)
 have P5:=zy (L4.out.1.setRow (zD7 (c0,c1,c2)))
 have HB5:=zy (HB4.out.trans (hB5.mono (by omega)))
 have HPu:=zy (fun W=>zEV p n k c0 c1 c2 W)
 clear A0 A1 HB4 hB5
 by_cases h0:er=0
 ·have t0:(er == 0)=true:=by simp [h0]
  clear h0
  go_wp2_with (first|(refine wpList_store_row rfl _ _ _ rfl _ _ rfl rfl _ _ (L4.out.1) (by exact zT5) rfl (zOs _ _ _) ?_)|(refine wpList_load_row rfl _ _ rfl _ rfl _ _ _ _ (A1'.out) Tryz.underlying75 rfl (by exact zT4) ?_)|(refine wpList_load_row rfl _ _ rfl _ rfl _ _ _ _ (P5.out) Tryz.underlying36 rfl (by exact zT5) ?_))
  refine (HPu.out _).mono ?_
  rintro e w6 ⟨rfl,hB6⟩
  have P6:=zy (P5.out.keep hB6)
  have A6:=zy (A0'.out.keep hB6)
  have HB6:=zy (HB5.out.trans (hB6.mono (by simp;omega)))
  have A7:=zy (A6.out.setRow (zD7 (c0,c1,c2)))
  clear hB6 P5 A0' A1' HB5 HPu L4
  go_wp2_with (first|(refine wpList_load_row rfl _ _ rfl _ rfl _ _ _ _ (P6.out) Tryz.underlying36 rfl (by exact zT5) ?_)|(refine wpList_store_row rfl _ _ _ rfl _ _ rfl rfl _ _ (A6.out) (by exact zT5) rfl (zOs _ _ _) ?_))
  refine bodyPost_ret (zR9 rfl _ _ _ _ _ _ rfl A7.out Tryz.underlying36 rfl (by exact zT5)) (by rfl) ?_
  exact ⟨by rw [←HC.out,←HE.out];rfl,below_setRow HB6.out (Nat.le_refl _) _⟩
 ·have t0:(er == 0)=false:=by simp [h0]
  have A7:=zy (A0'.out.setRow (zD7 (c0,c1,c2)))
  clear h0 HPu
  go_wp2_with (first|(refine wpList_store_row rfl _ _ _ rfl _ _ rfl rfl _ _ (L4.out.1) (by exact zT5) rfl (zOs _ _ _) ?_)|(refine wpList_load_row rfl _ _ rfl _ rfl _ _ _ _ (P5.out) Tryz.underlying36 rfl (by exact zT5) ?_)|(refine wpList_store_row rfl _ _ _ rfl _ _ rfl rfl _ _ (A0'.out) (by exact zT5) rfl (zOs _ _ _) ?_))
  refine bodyPost_ret (zR9 rfl _ _ _ _ _ _ rfl A7.out Tryz.underlying36 rfl (by exact zT5)) (by rfl) ?_
  exact ⟨by rw [←HC.out,←HE.out];rfl,below_setRow HB5.out (Nat.le_refl _) _⟩
end

section
def zAq (p n:Int) (x:PlT):Prop:=fitI p x.1 x.2.1 x.2.2=0∧x.2.1=n∧0≤x.2.2∧x.2.2≤4096
theorem zNd {p K n A:Int} {x:PlT} (h0:0≤A) (h1:A≤4096) (h:x ∈ one p K n A):zAq p n x:=by
 unfold one at h
 split at h
 ·rename_i hf
  rw [List.mem_singleton] at h
  subst h
  exact ⟨hf,rfl,h0,h1⟩
 ·cases h
theorem zMJ {p n:Int} {a:Nat} {x:PlT} (ha:a≤4096) (h:x ∈ of4 p n a):zAq p n x:=by
 unfold of4 at h
 obtain ⟨i,hi,rfl⟩:=List.mem_map.1 h
 obtain ⟨h1,h2⟩:=List.mem_filter.1 hi
 rw [decide_eq_true_eq] at h2
 have:=List.mem_range.1 h1
 exact ⟨h2.2,rfl,by show (0:Int)≤(i:Int);omega,by show (i:Int)≤4096;omega⟩
theorem zB0 {p n:Int} {x:PlT} (hn:1≤n∧n≤1024) (h:x ∈ allL p n):zAq p n x:=by
 unfold allL upA at h
 obtain ⟨k,_,hk⟩:=List.mem_flatMap.1 h
 unfold ofL at hk
 split at hk
 ·exact zMJ (by omega) hk
 ·split at hk
  ·exact zNd (zSs n).1 (zSs n).2 hk
  ·split at hk
   ·exact zNd (zET n).1 (zET n).2 hk
   ·exact zNd (by decide) (by decide) hk
theorem zDL {P:PlT→Prop} (k:Int): ∀(L:List PlT) (b:PlT),(b=(0,0,0)∨P b)→(∀x ∈ L,P x)→L.foldl (chz k) b=(0,0,0)∨P (L.foldl (chz k) b)
 | [],b,hb,_=>hb
 | x :: L,b,hb,h=>by
  rw [List.foldl_cons]
  refine zDL k L _ ?_ (fun y hy=>h y (List.mem_cons_of_mem _ hy))
  unfold chz
  split
  ·exact .inr (h x List.mem_cons_self)
  ·exact hb
theorem zDI {p n k:Int} (h:chE p n k=0):zAq p n (chP p n k):=by
 unfold chE at h
 unfold chP
 split at h
 ·rename_i hc
  rw [if_pos hc]
  split at h
  ·omega
  ·rename_i h0
   exact (zDL k (allL p n) (0,0,0) (.inl rfl) fun x hx=>zB0 (zEo hc) hx).resolve_left h0
 ·rename_i hc;exact absurd h hc
theorem zDN (k:Int): ∀(L:List PlT) (b:PlT),b≠(0,0,0)→(∀x ∈ L,CanP x)→L.foldl (chz k) b≠(0,0,0)
 | [],b,hb,_=>hb
 | x :: L,b,hb,h=>by
  rw [List.foldl_cons]
  refine zDN k L _ ?_ (fun y hy=>h y (List.mem_cons_of_mem _ hy))
  unfold chz
  split
  ·exact zDk (h x List.mem_cons_self)
  ·exact hb
theorem zDR {p n:Int} (h:chk p n 1024=0):chE p n (-1)=0:=by
 have hn:=zEo h
 have hc:canB 0 n 0=true:=by rw [zDg hn];rfl
 have hf:fitI p 0 n 0=0:=by
  unfold fitI
  rw [if_neg (by simp [h]),if_neg]
  rintro (h1|⟨h1,_⟩)
  ·rw [hc] at h1;cases h1
  ·omega
 have h1:upA p n 1= [(0,n,0)]:=by
  unfold upA ofL one
  simp [hf]
 obtain ⟨T,hT⟩:=zVW p n 1 7 (by decide)
 rw [h1] at hT
 have hall:allL p n=(0,n,0) :: T:=hT.symm
 unfold chE
 rw [if_pos h,if_neg]
 unfold chF
 rw [hall,List.foldl_cons]
 have hx: ∀x ∈ allL p n,CanP x:=fun x hx=>zBz hn h hx
 rw [hall] at hx
 refine zDN (-1) T _ ?_ fun x h=>hx x (List.mem_cons_of_mem _ h)
 unfold chz
 rw [if_pos ⟨.inl rfl, .inl rfl⟩]
 intro e
 have:=congrArg (fun x:PlT=>x.2.1) e
 simp at this
 omega
noncomputable def rndf (p k:Int) (L M:List Int):Int:=if L.length≠M.length then 1 else if chE p L.length k≠0 then chE p L.length k else if (zI1 p L && zI1 p M)=false then 9 else 0
theorem zRZ {p k:Int} {L M:List Int} (h:rndf p k L M=0):L.length=M.length∧chE p L.length k=0∧zI1 p L=true∧zI1 p M=true:=by
 unfold rndf at h
 split at h
 ·omega
 ·rename_i h1
  split at h
  ·rename_i h2;exact absurd h h2
  ·rename_i h2
   split at h
   ·omega
   ·rename_i h3
    simp only [Bool.not_eq_false,Bool.and_eq_true] at h3
    exact ⟨by omega,by omega,h3.1,h3.2⟩
end

section
open Alg
def Chs (cv fv:Value) (p n k:Int) (B:Nat) (Q:World→Prop):Prop:=
 ∀W,Q W→Calls Tryz.prog 82 #[cv,fv, .int .i64 n, .int .i64 k] W fun e w'=>e= .returned (.tuple #[.agg (zD7 (chP p n k)), .int .i64 (chE p n k)])∧Below B W w'∧Q w'
theorem zBu {p:Nat} [NeZero p] {g:Int} (hp:Prime p) (hg:Ord (zt p g) (p-1)) {L M:List Int} (hlm:L.length=M.length) (hck:chk p L.length 1024=0):
  lst L.length (tr (zt p g) L.length true (fun j=>tr (zt p g) L.length false (rz p L) j*tr (zt p g) L.length false (rz p M) j))=lst L.length (rnd p L M):=by
 obtain ⟨hd,h0⟩:=zEl (by have:=hp.1;omega) hck
 exact zKW fun i hi=>by rw [zRY L M hlm hi];exact zVk hp hg hd h0 _ _ i hi
theorem zBb {p:Nat} [NeZero p] {w:World} {v:Value} {g:Int} (hp:Prime p) (hg:Ord (zt p g) (p-1)) (g0:0≤g) (g1:g<p) (B:Nat) (hBw:B≤w.heap.size) (h:Fd w B v p g) (AA AB:Option Addr) (cA cB:Nat) (L M:List Int) (k:Int)
  (hU:U64s L) (hU':U64s M) (hA:RdI w B .u64 AA L) (hB:RdI w B .u64 AB M) (hf:rndf p k L M=0) (cv:Value) (Q:World→Prop) (hQ: ∀W W',Q W→Below W.heap.size W W'→Q W') (hC:Chs cv v p L.length k B Q) (hq:Q w):
  Calls Tryz.prog 37 #[v,cv, .slice AA L.length cA, .slice AB M.length cB, .int .i64 k] w fun r w'=> ∃V,r= .returned (.tuple #[V, .int .i64 0])∧OwnU w' w.heap.size V L.length (lst L.length (rnd p L M))∧Below B w w'∧Q w'∧ ∃W1,Q W1∧Below W1.heap.size W1 w'∧OwnU w' W1.heap.size V L.length (lst L.length (rnd p L M)):=by
 obtain ⟨hlm,hce,hgL,hgM⟩:=zRZ hf
 obtain ⟨hf0,hN,hA0,hA1⟩:=zDI hce
 have hck:chk p L.length 1024=0:=by have:=zHg hf0;rw [hN] at this;exact this
 have hrg:=zEo hck
 have hK:=zDd (zHf hf0)
 have HPM:=zy (And.intro h.p3 h.pmx)
 obtain ⟨⟨K,N,A⟩,hx⟩: ∃x,x=chP p L.length k:=⟨_,rfl⟩
 rw [←hx] at hf0 hN hA0 hA1 hK
 have hN':N=(L.length:Int):=hN
 replace hK:0≤K∧K≤6:=hK
 replace hA0:0≤A:=hA0
 replace hA1:A≤4096:=hA1
 have HCh:=zy (hC w hq)
 rw [hce,←hx] at HCh
 subst hN'
 have HF:=zy h
 have HR1:=zy hA
 have HR2:=zy hB
 have HRun:Hid (∀(X:List Int) (inv:Bool) (AX:Option Addr) (cX:Nat) W,X.length=L.length→zI1 p X=true→U64s X→Fd W W.heap.size v p g→RdI W W.heap.size .u64 AX X→
   Calls Tryz.prog 27 #[v, .agg #[.int .i64 K, .int .i64 L.length, .int .i64 A], .slice AX L.length cX, .bool inv] W fun e w'=> ∃V,e= .returned (.tuple #[V, .int .i64 0])∧OwnU w' W.heap.size V L.length (lst L.length (tr (zt p g) L.length inv (rz p X)))∧Below W.heap.size W w'):=zy (fun X inv AX cX W hl hgX hUX hW hRX=>by
  have he:errP p K L.length A X=0:=by unfold errP zI4;rw [if_neg (by omega),if_neg (by simp [hf0]),if_neg (by simp [hgX])]
  have h1:=zPr hp hg g0 g1 hW AX cX X inv hUX hRX K L.length A (by omega) (by omega) (by omega) (by omega) (by omega) (by omega) (by omega)
  rw [he,hl] at h1
  refine h1.mono ?_
  rintro e w' ⟨V,he',hQ,hb⟩
  rcases hQ with ⟨_,ho⟩|⟨hne,_⟩
  ·rw [hl] at ho;exact ⟨V,he',ho,hb⟩
  ·exact absurd rfl hne)
 have HT:=zy (zBu hp hg hlm hck)
 obtain ⟨n,hn⟩: ∃n,n=L.length:=⟨_,rfl⟩
 have hm:M.length=n:=by omega
 have HG:Hid (∀W,Fd W W.heap.size v p g→RdI W W.heap.size .u64 AA L→RdI W W.heap.size .u64 AB M→Calls Tryz.prog 78 #[v, .slice AA n cA, .slice AB n cB] W fun e w'=>e= .returned (.bool true)∧W=w'):=zy (fun W hW h1 h2=>by
  have:=zDH hW AA AB cA cB L M (by omega) (by omega) hU hU' h1 h2
  rw [hgL,hgM,hm,←hn] at this;exact this)
 have HR3:=zy (HRun.out L false AA cA · rfl hgL hU)
 have HR4:=zy (HRun.out M false AB cB · hlm.symm hgM hU')
 have HR5:Hid (∀(F:Nat→Fin p) AX cX W,Fd W W.heap.size v p g→RdI W W.heap.size .u64 AX (lst n F)→Calls Tryz.prog 27 #[v, .agg #[.int .i64 K, .int .i64 n, .int .i64 A], .slice AX n cX, .bool true] W fun e w'=> ∃V,e= .returned (.tuple #[V, .int .i64 0])∧OwnU w' W.heap.size V n (lst n (tr (zt p g) n true F))∧Below W.heap.size W w'):=zy (fun F AX cX W hW hX=>by
  have h1:=HRun.out (lst n F) true AX cX W (by rw [zLb];exact hn) (zKZ _ _) (zLd HPM.out.2 _ _) hW hX
  rw [←hn,show lst n (tr (zt p g) n true (rz p (lst n F)))=lst n (tr (zt p g) n true F) from zKW fun i _=>zVn _ _ _ _ _] at h1
  exact h1)
 rw [←hn] at HR3 HR4 HT HCh ⊢
 rw [hm]
 obtain ⟨X,hX⟩: ∃X,X=tr (zt p g) n false (rz p L):=⟨_,rfl⟩
 obtain ⟨Y,hY⟩: ∃Y,Y=tr (zt p g) n false (rz p M):=⟨_,rfl⟩
 rw [←hX] at HR3 HT
 rw [←hY] at HR4 HT
 have HTm:Hid (∀W A' B' c' d',Fd W W.heap.size v p g→RdI W W.heap.size .u64 A' (lst n X)→RdI W W.heap.size .u64 B' (lst n Y)→Calls Tryz.prog 83 #[v, .slice A' n c', .slice B' n d'] W fun r w'=> ∃V,r= .returned V∧OwnU w' W.heap.size V n (lst n fun j=>X j*Y j)∧Below W.heap.size W w'):=zy (fun W A' B' c' d' hW h1 h2=>
  zUU hW n (by omega) (by omega) A' B' c' d' X Y h1 h2)
 have HR6:=zy (HR5.out (fun j=>X j*Y j))
 rw [HT.out] at HR6
 obtain ⟨fb,rfl⟩: ∃fb,v= .pointer (some ⟨fb,0,none⟩):=by
  obtain ⟨b,c,t,o,s,sv,hv,_⟩:=h
  exact ⟨b,hv⟩
 have hn1:n≤1024:=by omega
 have HN:=zy hn
 obtain ⟨Z,hZ⟩: ∃Z,Z=lst n (rnd p L M):=⟨_,rfl⟩
 rw [←hZ] at HR6 ⊢
 have HQ:=zy hQ
 clear h hA hB hU hU' hf hC hq hQ hce hf0 hN hck hx HRun HT HR5 hX hY hZ hn hm hlm hgL hgM hrg hp hg g0 g1
 go_enter Tryz.func37,Tryz.ntmps37
 go_wp2_with fail
 refine HCh.out.mono ?_
 rintro e w1 ⟨rfl,hB1,hq1⟩
 simp only [zD7]
 have L1:=zy (lay1 w1 36 #[.int .i64 0, .int .i64 0, .int .i64 0])
 have hBs:=below_setRow L1.out.2 (Nat.le_refl _) #[.int .i64 K, .int .i64 n, .int .i64 A]
 have KP0:Hid (∀G,B≤G→ ∀W W',(zAI W G 36 #[.int .i64 K, .int .i64 n, .int .i64 A]∧Below B w W∧Q W)→Below W.heap.size W W'→(zAI W' G 36 #[.int .i64 K, .int .i64 n, .int .i64 A]∧Below B w W'∧Q W')):=zy (fun G hG W W' h hY=>⟨h.1.keep hY,h.2.1.trans (hY.mono (Nat.le_trans hBw h.2.1.size)),HQ.out _ _ h.2.2 hY⟩)
 have P1:=zy (And.intro (L1.out.1.setRow #[.int .i64 K, .int .i64 n, .int .i64 A]) (And.intro (hB1.trans (hBs.mono (Nat.le_trans hBw hB1.size))) (HQ.out _ _ hq1 hBs)))
 have hl1:w.heap.size≤w1.heap.size∨True:= .inr trivial
 have KP:=zy (KP0.out w1.heap.size (Nat.le_trans hBw hB1.size))
 have HFs:Hid (∀W,Below B w W→Fd W W.heap.size (.pointer (some ⟨fb,0,none⟩)) p g):=zy (fun W hW=>Fd.mono (HF.out.below hW) (Nat.le_trans hBw hW.size))
 have HRa:Hid (∀W,Below B w W→RdI W W.heap.size .u64 AA L):=zy (fun W hW=>RdI.mono (HR1.out.below hW) (Nat.le_trans hBw hW.size))
 have HRb:Hid (∀W,Below B w W→RdI W W.heap.size .u64 AB M):=zy (fun W hW=>RdI.mono (HR2.out.below hW) (Nat.le_trans hBw hW.size))
 clear hBs hq1 hB1 HF HR1 HR2 HQ KP0 hl1
 go_wp2_with (refine wpList_store_row rfl _ _ _ rfl _ _ rfl rfl _ _ (L1.out.1) (by exact zT5) rfl (zOs _ _ _) ?_)
 refine (HG.out _ (HFs.out _ P1.out.2.1) (HRa.out _ P1.out.2.1) (HRb.out _ P1.out.2.1)).mono ?_
 rintro e w2 ⟨rfl,rfl⟩
 clear L1 HG
 obtain ⟨G,hG⟩: ∃G,G=w1.heap.size:=⟨_,rfl⟩
 obtain ⟨w2,hw2⟩: ∃w2,w2=(w1.alloc (.cells #[.int .i64 0, .int .i64 0, .int .i64 0] 36)).setRow w1.heap.size #[.int .i64 K, .int .i64 n, .int .i64 A]:=⟨_,rfl⟩
 rw [←hw2] at P1 ⊢
 rw [←hG] at P1 KP ⊢
 clear hw2 hG
 have HQ2:=zy P1.out.2.2
 go_wp2_with (refine wpList_load_row rfl _ _ rfl _ rfl _ _ _ _ (P1.out.1) Tryz.underlying36 rfl (by exact zT5) ?_)
 refine (HR3.out _ (HFs.out _ P1.out.2.1) (HRa.out _ P1.out.2.1)).mono ?_
 rintro e w3 ⟨V3,rfl,hO3,hB3⟩
 obtain ⟨A3,c3,rfl,hR3⟩:=hO3.rd
 have P3:=zy (KP.out _ _ P1.out hB3)
 have HR3:=zy hR3
 have M3:=zy hB3
 clear hO3 hR3 hB3 P1
 go_wp2_with (refine wpList_load_row rfl _ _ rfl _ rfl _ _ _ _ (P3.out.1) Tryz.underlying36 rfl (by exact zT5) ?_)
 refine (HR4.out _ (HFs.out _ P3.out.2.1) (HRb.out _ P3.out.2.1)).mono ?_
 rintro e w4 ⟨V4,rfl,hO4,hB4⟩
 obtain ⟨A4,c4,rfl,hR4⟩:=hO4.rd
 have P4:=zy (KP.out _ _ P3.out hB4)
 have HX:=zy ((HR3.out.below hB4).mono hB4.size)
 have HY:=zy hR4
 have M4:=zy (M3.out.trans (hB4.mono M3.out.size))
 clear hO4 hR4 hB4 M3 P3 HR3 HR4 HRa HRb
 go_wp2_with fail
 have z0:=zy (KP.out _ _ P4.out (below_drewN (Below.refl _ _) 1))
 have HX0:Hid (RdI (w4.drewN 1) (w4.drewN 1).heap.size .u64 A3 (lst n X)):=zy HX.out
 have HY0:Hid (RdI (w4.drewN 1) (w4.drewN 1).heap.size .u64 A4 (lst n Y)):=zy HY.out
 have M0:Hid (Below w2.heap.size w2 (w4.drewN 1)):=zy (below_drewN M4.out 1)
 clear P4 HX HY M4
 refine wp_region_held_drew (S:=fun wz=>zAI wz G 36 #[.int .i64 K, .int .i64 n, .int .i64 A]) (by kernel_rfl) (z0.out.1) (fun hHeld=>?_)
 refine zj (i:=0) (v:=?_) rfl (by kernel_rfl) (fun _ _ _=>id) (by rfl) ?_ z0.out.1 ?_
 rotate_left
 ·intro w h;go_simp;try with_reducible rfl
 try simp only [zv,zx]
 refine zQ (i:=1) rfl (by kernel_rfl) (fun _ _ _=>id) (zXh (by rfl) _ _ rfl _ rfl _ _ _ (fun wz h=>h) Tryz.underlying36 rfl (by exact zT5)) z0.out.1 ?_
 try simp only [zv,zx]
 refine zj (i:=2) (v:=?_) rfl (by kernel_rfl) (fun _ _ _=>id) (by rfl) ?_ z0.out.1 ?_
 rotate_left
 ·intro w h;go_simp;try with_reducible rfl
 try simp only [zv,zx]
 refine zj (i:=3) (v:=?_) rfl (by kernel_rfl) (fun _ _ _=>id) (by rfl) ?_ z0.out.1 ?_
 rotate_left
 ·intro w h;go_simp;try with_reducible rfl
 try simp only [zv,zx]
 refine zj (i:=4) (v:=?_) rfl (by kernel_rfl) (fun _ _ _=>id) (by rfl) ?_ z0.out.1 ?_
 rotate_left
 ·intro w h;go_simp;try with_reducible rfl
 try simp only [zv,zx]
 refine wpAnyH_ready (rs:= [5]) (by kernel_rfl) (by simp) ?_
 refine AllReadyH.cons rfl (fun K hK=>?_) AllReadyH.nil
 try simp only [zx]
 rw [if_pos (by rfl)]
 go_wp2_with (go_at_call 83;refine (HTm.out _ _ _ _ _ (HFs.out _ z0.out.2.1) HX0.out HY0.out).mono ?_;rintro e y5 ⟨V5,rfl,hO5,hY⟩)
 have z5:=zy (KP.out _ _ z0.out hY)
 obtain ⟨A5,c5,rfl,hR5⟩:=hO5.rd
 have HR5:=zy hR5
 have M5:=zy (M0.out.trans (hY.mono M0.out.size))
 clear hO5 hR5 hY
 refine hK.out _ _ (z5.out.1) (fun _=>?_)
 clear hK K
 try simp only [zv,zx]
 refine wpAnyH_ready (rs:= [6]) (by kernel_rfl) (by simp) ?_
 refine AllReadyH.cons rfl (fun K hK=>?_) AllReadyH.nil
 try simp only [zx]
 rw [if_pos (by rfl)]
 go_wp2_with (go_at_call 27;refine (HR6.out _ _ _ (HFs.out _ z5.out.2.1) HR5.out).mono ?_;rintro e y6 ⟨V6,rfl,hO6,hY⟩)
 have z6:=zy (KP.out _ _ z5.out hY)
 have HO6:=zy hO6
 have M6:=zy (M5.out.trans (hY.mono M5.out.size))
 clear hO6 hY
 refine hK.out _ _ (z6.out.1) (fun _=>?_)
 clear hK K
 try simp only [zv,zx]
 refine zj (i:=7) (v:=?_) rfl (by kernel_rfl) (fun _ _ _=>id) (by rfl) ?_ z6.out.1 ?_
 rotate_left
 ·intro w h;go_simp;try with_reducible rfl
 try simp only [zv,zx]
 refine zj (i:=8) (v:=?_) rfl (by kernel_rfl) (fun _ _ _=>id) (by rfl) ?_ z6.out.1 ?_
 rotate_left
 ·intro w h;go_simp;try with_reducible rfl
 try simp only [zv,zx]
 refine zj (i:=9) (v:=?_) rfl (by kernel_rfl) (fun _ _ _=>id) (by rfl) ?_ z6.out.1 ?_
 rotate_left
 ·intro w h;go_simp;try with_reducible rfl
 try simp only [zv,zx]
 refine zj (i:=10) (v:=?_) rfl (by kernel_rfl) (fun _ _ _=>id) (by rfl) ?_ z6.out.1 ?_
 rotate_left
 ·intro w h;go_simp;try with_reducible rfl
 try simp only [zv,zx]
 refine wpAnyH_done (by kernel_rfl) ?_ _
 go_wp2
 go_ret2
 exact ⟨_,rfl,HO6.out.mono z5.out.2.1.size,z6.out.2.1,z6.out.2.2,w2,HQ2.out,M6.out,HO6.out.mono M5.out.size⟩
end

section
open Alg
theorem zTA:(Tryz.prog.info? 25).map (·.size)=some 4:=by kernel_rfl
theorem zB9:lst 4 (drc 97 [1,2] [3,4,5])= [3,10,13,10]:=by decide +kernel
theorem zBD:lst 3 (rnd 97 [1,2,0] [3,4,5])= [13,10,13]:=by decide +kernel
theorem zBC:rndf 97 (-1) [1,2,0] [3,4,5]=0:=by
 have h1:chE 97 ((3:Nat):Int) (-1)=0:=zDR (by decide)
 unfold rndf
 rw [if_neg (by decide),if_neg (by simp only [List.length_cons,List.length_nil];simpa using h1),if_neg (by decide)]
theorem zBE {q:Option Addr} {p g:Int} (n:Nat) (k:Int) (hn:n≤140737488351232) (B:Nat):Chs (.pointer none) (.pointer q) p n k B (fun W=>Fd W W.heap.size (.pointer q) p g∧B≤W.heap.size):=fun W hW=>
 (zDr hW.1 (n:Int) k (by omega) (by omega)).mono fun e w' ⟨he,hb⟩=>⟨he,hb.mono hW.2,(hW.1.below hb).mono hb.size,Nat.le_trans hW.2 hb.size⟩
theorem zCu {v:Value} {p g:Int} {B:Nat} (W W':World) (h:Fd W W.heap.size v p g∧B≤W.heap.size) (hb:Below W.heap.size W W'):Fd W' W'.heap.size v p g∧B≤W'.heap.size:=
 ⟨(h.1.below hb).mono hb.size,Nat.le_trans h.2 hb.size⟩
theorem zBx (w:World):Calls Tryz.prog 31 #[] w fun e w'=>e= .returned (.bool true)∧Below w.heap.size w w':=by
 go_enter Tryz.func31,Tryz.ntmps31
 go_wp2_with fail
 refine (zTY 97 5 zIs zM9 w).mono ?_
 rintro r w1 ⟨v,rfl,hC,hF,hB1⟩
 obtain ⟨q,rfl⟩: ∃q,v= .pointer q:=by
  obtain ⟨b,_,_,_,_,_,e,_⟩:=hF
  exact ⟨_,e⟩
 have HC:Hid (Ord (zt 97 5) (97-1)):=zy ((Cert.nat (q:=97) hC).2)
 have HF:=zy hF
 clear hC hF
 go_wp2_with fail
 have hB4:=(Below.refl w1.heap.size w1).alloc (Nat.le_refl _) (.cells (ints .u64 [1,2]).toArray 22)
 have hs4:(w1.alloc (.cells (ints .u64 [1,2]).toArray 22)).heap.size=w1.heap.size+1:=by simp
 have hB5':=(Below.refl (w1.alloc (.cells (ints .u64 [1,2]).toArray 22)).heap.size (w1.alloc (.cells (ints .u64 [1,2]).toArray 22))).alloc (Nat.le_refl _) (.cells (ints .u64 [3,4,5]).toArray 22)
 have hB5:=hB4.trans (hB5'.mono hB4.size)
 have hs5:((w1.alloc (.cells (ints .u64 [1,2]).toArray 22)).alloc (.cells (ints .u64 [3,4,5]).toArray 22)).heap.size=w1.heap.size+1+1:=by simp
 have hLa:=((RdU.lit w1 [1,2]).below (by rw [hs4] at hB5';exact hB5')).mono (show w1.heap.size+1≤((w1.alloc (.cells (ints .u64 [1,2]).toArray 22)).alloc (.cells (ints .u64 [3,4,5]).toArray 22)).heap.size by rw [hs5];omega)
 have hLb:=RdU.lit (w1.alloc (.cells (ints .u64 [1,2]).toArray 22)) [3,4,5]
 rw [hs4] at hLb
 have hF2:=(HF.out.below hB5).mono hB5.size
 have hR:=zF9 (p:=97) hF2 (some ⟨w1.heap.size,0,none⟩) (some ⟨w1.heap.size+1,0,none⟩) 2 3 [1,2] [3,4,5] (by decide) (by decide) (by decide) (fun x hx=>by simp at hx;omega) (fun x hx=>by simp at hx;omega) hLa (by rw [hs5];exact hLb) (by decide) (by decide)
 refine hR.mono ?_
 rintro r w2 ⟨V2,rfl,hO2,hB6⟩
 have hO2':OwnU w2 _ V2 4 (lst 4 (drc 97 [1,2] [3,4,5])):=hO2
 rw [zB9] at hO2'
 have hB6':=hB5.trans (hB6.mono hB5.size)
 have hBy:=hB1.trans (hB6'.mono hB1.size)
 obtain ⟨A2,c2,rfl,hRd2⟩:=hO2'.rd
 have HF2:=zy ((HF.out.below hB6').mono hB6'.size)
 clear hB4 hs4 hB5' hB5 hs5 hLa hLb hF2 hR hB6 hB6' hO2 hO2' HF hB1
 go_wp2_with fail
 have hB4:=(Below.refl w2.heap.size w2).alloc (Nat.le_refl _) (.cells (ints .u64 [1,2,0]).toArray 22)
 have hs4:(w2.alloc (.cells (ints .u64 [1,2,0]).toArray 22)).heap.size=w2.heap.size+1:=by simp
 have hB5':=(Below.refl (w2.alloc (.cells (ints .u64 [1,2,0]).toArray 22)).heap.size (w2.alloc (.cells (ints .u64 [1,2,0]).toArray 22))).alloc (Nat.le_refl _) (.cells (ints .u64 [3,4,5]).toArray 22)
 have hB5:=hB4.trans (hB5'.mono hB4.size)
 have hs5:((w2.alloc (.cells (ints .u64 [1,2,0]).toArray 22)).alloc (.cells (ints .u64 [3,4,5]).toArray 22)).heap.size=w2.heap.size+1+1:=by simp
 have hLa:=((RdU.lit w2 [1,2,0]).below (by rw [hs4] at hB5';exact hB5')).mono (show w2.heap.size+1≤((w2.alloc (.cells (ints .u64 [1,2,0]).toArray 22)).alloc (.cells (ints .u64 [3,4,5]).toArray 22)).heap.size by rw [hs5];omega)
 have hLb:=RdU.lit (w2.alloc (.cells (ints .u64 [1,2,0]).toArray 22)) [3,4,5]
 rw [hs4] at hLb
 have hF2:=(HF2.out.below hB5).mono hB5.size
 have hR:=zBb (p:=97) zPd HC.out (by omega) (by omega) _ (Nat.le_refl _) hF2 (some ⟨w2.heap.size,0,none⟩) (some ⟨w2.heap.size+1,0,none⟩) 3 3 [1,2,0] [3,4,5] (-1) (fun x hx=>by simp at hx;omega) (fun x hx=>by simp at hx;omega) hLa (by rw [hs5];exact hLb) zBC
  (.pointer none) _ zCu (zBE 3 (-1) (by decide) _) ⟨hF2,Nat.le_refl _⟩
 refine hR.mono ?_
 rintro r w3 ⟨V3,rfl,hO3,hB6,_⟩
 have hO3':OwnU w3 _ V3 3 (lst 3 (rnd 97 [1,2,0] [3,4,5])):=hO3
 rw [zBD] at hO3'
 have hB6':=hB5.trans (hB6.mono hB5.size)
 have hBz:=hBy.trans (hB6'.mono hBy.size)
 obtain ⟨A3,c3,rfl,hRd3⟩:=hO3'.rd
 have hRd:=(hRd2.below hB6').mono hB6'.size
 clear hB4 hs4 hB5' hB5 hs5 hLa hLb hF2 hR hB6 hB6' hO3 hO3' HF2 hBy hRd2
 go_wp2_with fail
 have hL2:=RdU.lit w3 [3,10,13,10]
 have hB4:=(Below.refl w3.heap.size w3).alloc (Nat.le_refl _) (.cells (ints .u64 [3,10,13,10]).toArray 22)
 refine (zSV A2 (some ⟨w3.heap.size,0,none⟩) c2 4 (w3.heap.size+1) [3,10,13,10] [3,10,13,10] _ (by simp) (by simp) ((hRd.below hB4).mono (Nat.le_succ _)) hL2).mono ?_
 rintro r w4 ⟨rfl,hB5⟩
 have hB7:=hB4.trans (hB5.mono hB4.size)
 have hBf:=hBz.trans (hB7.mono hBz.size)
 have hRd4:=(hRd3.below hB7).mono hB7.size
 clear hL2 hB4 hRd hRd3 hB5 hB7 hBz
 go_wp2_with fail
 have hL2:=RdU.lit w4 [13,10,13]
 have hB4:=(Below.refl w4.heap.size w4).alloc (Nat.le_refl _) (.cells (ints .u64 [13,10,13]).toArray 22)
 refine (zSV A3 (some ⟨w4.heap.size,0,none⟩) c3 3 (w4.heap.size+1) [13,10,13] [13,10,13] _ (by simp) (by simp) ((hRd4.below hB4).mono (Nat.le_succ _)) hL2).mono ?_
 rintro r w5 ⟨rfl,hB5⟩
 have hB7:=hB4.trans (hB5.mono hB4.size)
 have hBg:=hBf.trans (hB7.mono hBf.size)
 clear hL2 hB4 hRd4 hB5 hB7 hBf
 go_wp2
 go_ret
 exact ⟨by first|rfl|simp,hBg⟩
end

section
open Alg
theorem zDU (AA AB:Option Addr) (cA cB:Nat) (p k:Int) (p1:3≤p) (p2':p<9223372036854775808) (L M:List Int) (w:World) (hl:L.length≤140737488351232) (hm:M.length≤140737488351232) (hA:RdI w w.heap.size .u64 AA L) (hB:RdI w w.heap.size .u64 AB M):
  Calls Tryz.prog 36 #[.int .u64 p, .slice AA L.length cA, .slice AB M.length cB, .int .i64 k] w fun e w'=>e= .returned (.int .i64 (rndf p k L M))∧Below w.heap.size w w':=by
 have HGd:Hid (∀W,Below w.heap.size w W→Calls Tryz.prog 77 #[.int .u64 p, .slice AA L.length cA, .slice AB M.length cB] W fun e w'=>e= .returned (.bool (zI1 p L && zI1 p M))∧W=w'):=zy (fun W hW=>zQb AA AB cA cB W.heap.size p L M W hl hm ((hA.below hW).mono hW.size) ((hB.below hW).mono hW.size))
 have HCh:=zy (zPK p (L.length:Int) k p1 p2' (by omega) (by omega) w)
 obtain ⟨gd,hgd⟩: ∃gd,gd=(zI1 p L && zI1 p M):=⟨_,rfl⟩
 have hd:Hid (rndf p k L M=if L.length≠M.length then 1 else if chE p L.length k≠0 then chE p L.length k else if gd=false then 9 else 0):=zy (by rw [hgd];rfl)
 rw [←hgd] at HGd
 obtain ⟨z,hz⟩: ∃z,z=rndf p k L M:=⟨_,rfl⟩
 rw [←hz] at hd ⊢
 obtain ⟨er,he⟩: ∃er,er=chE p L.length k:=⟨_,rfl⟩
 rw [←he] at hd HCh
 obtain ⟨⟨x0,x1,x2⟩,hx⟩: ∃x,x=chP p L.length k:=⟨_,rfl⟩
 rw [←hx] at HCh
 obtain ⟨a,ha⟩: ∃a,a=L.length:=⟨_,rfl⟩
 obtain ⟨b,hb⟩: ∃b,b=M.length:=⟨_,rfl⟩
 rw [←ha] at hd HGd HCh hl ⊢
 rw [←hb] at hd HGd hm ⊢
 clear hA hB hgd hz ha hb he hx
 by_cases hab:a=b
 case neg=>
  have hz1:Hid (z=1):=zy (by rw [hd.out,if_pos hab])
  have t1:((a:Int) != (b:Int))=true:=by simp;omega
  clear hd HGd HCh hab
  go_enter Tryz.func36,Tryz.ntmps36
  go_wp2
  go_ret
  exact ⟨by rw [hz1.out];rfl,Below.refl _ _⟩
 have t1:((a:Int) != (b:Int))=false:=by simp;omega
 have hd1:=hd.out
 rw [if_neg (by omega)] at hd1
 clear hd
 by_cases h0:er=0
 case neg=>
  have hz1:Hid (z=er):=zy (by rw [hd1,if_pos h0])
  have t2:(er != 0)=true:=by simp [h0]
  clear hd1 HGd hab h0
  go_enter Tryz.func36,Tryz.ntmps36
  go_wp2_with fail
  refine HCh.out.mono ?_
  rintro e w1 ⟨rfl,hB1⟩
  simp only [zD7]
  have L1:=zy (lay1 w1 27 #[.int .i64 0, .int .i64 0, .int .i64 0])
  have hBs:=hB1.trans ((below_setRow L1.out.2 (Nat.le_refl _) #[.int .i64 x0, .int .i64 x1, .int .i64 x2]).mono hB1.size)
  have HBs:=zy hBs
  clear hBs hB1 HCh
  go_wp2_with (refine wpList_store_row rfl _ _ _ rfl _ _ rfl rfl _ _ (L1.out.1) (by exact zT6) rfl (zOs _ _ _) ?_)
  go_ret
  exact ⟨by rw [hz1.out];rfl,HBs.out⟩
 rw [if_neg (by simp [h0])] at hd1
 subst h0
 have HD:=zy hd1
 clear hd1 hab
 cases gd
 all_goals
  go_enter Tryz.func36,Tryz.ntmps36
  go_wp2_with fail
  refine HCh.out.mono ?_
  rintro e w1 ⟨rfl,hB1⟩
  simp only [zD7]
  have L1:=zy (lay1 w1 27 #[.int .i64 0, .int .i64 0, .int .i64 0])
  have hBs:=hB1.trans ((below_setRow L1.out.2 (Nat.le_refl _) #[.int .i64 x0, .int .i64 x1, .int .i64 x2]).mono hB1.size)
  have HBs:=zy hBs
  clear hBs hB1 HCh
  go_wp2_with (refine wpList_store_row rfl _ _ _ rfl _ _ rfl rfl _ _ (L1.out.1) (by exact zT6) rfl (zOs _ _ _) ?_)
  refine (HGd.out _ HBs.out).mono ?_
  rintro e w2 ⟨rfl,rfl⟩
  go_wp2
  go_ret
  exact ⟨by rw [HD.out];rfl,HBs.out⟩
end

section
def keyV (K N A:Int):Value:= .agg #[.int .u64 K, .int .i64 N, .int .i64 A]
theorem zTE {a b c d e f:Int}:keyV a b c=keyV d e f↔a=d∧b=e∧c=f:=by
 simp [keyV]
theorem zOE (a b c d e f:Int) (w:World):(Op.equalIn 10000 75 (keyV a b c) (keyV d e f)).run Tryz.prog w= .ok (a == d && b == e && c == f) w:=by
 have u3:=Tryz.underlying3
 have a3:=Tryz.isAgg3
 have z3:=Tryz.sizeOf3
 have u2:=Tryz.underlying22
 have a2:=Tryz.isAgg22
 have z2:=Tryz.sizeOf22
 have u4:=Tryz.underlying34
 have a4:=Tryz.isAgg34
 have z4:=Tryz.sizeOf34
 rw [show (10000:Nat)=9999+1 from rfl,Op.equalIn]
 unfold keyV
 simp only [Sem.run_bind,run_underlying Tryz.underlying75,Result.andThen_ok]
 go_simp
 by_cases h1:a=d <;> by_cases h2:b=e <;> by_cases h3:c=f <;> simp [h1,h2,h3]
theorem zNf (em:Bool) (n:Nat) (a b c:Int) (w:World):(Instr.checkKey em (n+2) 75 (keyV a b c)).run Tryz.prog w= .ok () w:=by
 have u3:=Tryz.underlying3
 have a3:=Tryz.isAgg3
 have z3:=Tryz.sizeOf3
 have u2:=Tryz.underlying22
 have a2:=Tryz.isAgg22
 have z2:=Tryz.sizeOf22
 have u4:=Tryz.underlying34
 have a4:=Tryz.isAgg34
 have z4:=Tryz.sizeOf34
 rw [Instr.checkKey]
 unfold keyV
 simp only [Sem.run_bind,run_underlying Tryz.underlying75,Result.andThen_ok]
 simp only [Instr.checkKey]
 go_simp
theorem zNb (em:Bool) (a b c:Int) (w:World):(Instr.checkKey em 10000 75 (keyV a b c)).run Tryz.prog w= .ok () w:=zNf em 9998 a b c w
def zKG (v:Value):Prop:= ∃K N A:Int,v=keyV K N A
theorem zMm (K N A:Int) (w:World): ∀(l:List MapEntry) (i:Nat),(∀x ∈ l,zKG x.key)→
  ((Instr.findAsking 75 (keyV K N A) l i).run Tryz.prog w= .ok none w∧ ∀x ∈ l,x.key≠keyV K N A)∨
  (∃j e,(Instr.findAsking 75 (keyV K N A) l i).run Tryz.prog w= .ok (some (i+j,e.val)) w∧l[j]? =some e∧e.key=keyV K N A)
 | [],i,_=> .inl ⟨rfl,fun x h=>by cases h⟩
 | x :: l,i,h=>by
  obtain ⟨a,b,c,hx⟩:=h x List.mem_cons_self
  have he:=zOE K N A a b c w
  rw [←hx] at he
  by_cases hk:x.key=keyV K N A
  ·refine .inr ⟨0,x,?_,rfl,hk⟩
   have ht:(K == a && N == b && A == c)=true:=by
    rw [hx] at hk
    obtain ⟨rfl,rfl,rfl⟩:=zTE.1 hk
    simp
   rw [ht] at he
   simp only [Instr.findAsking,Op.equal,Op.maxDepth,Sem.run_bind,he,Result.andThen_ok]
   rfl
  ·have ht:(K == a && N == b && A == c)=false:=by
    rw [Bool.eq_false_iff]
    intro hc
    simp only [Bool.and_eq_true,beq_iff_eq] at hc
    obtain ⟨⟨rfl,rfl⟩,rfl⟩:=hc
    exact hk hx
   rw [ht] at he
   have hr:(Instr.findAsking 75 (keyV K N A) (x :: l) i).run Tryz.prog w=(Instr.findAsking 75 (keyV K N A) l (i+1)).run Tryz.prog w:=by
    simp only [Instr.findAsking,Op.equal,Op.maxDepth,Sem.run_bind,he,Result.andThen_ok]
    rfl
   rw [hr]
   rcases zMm K N A w l (i+1) (fun y hy=>h y (List.mem_cons_of_mem _ hy)) with ⟨h1,h2⟩|⟨j,e,h1,h2,h3⟩
   ·exact .inl ⟨h1,fun y hy=>by
     rcases List.mem_cons.1 hy with rfl|hy
     ·exact hk
     ·exact h2 y hy⟩
   ·exact .inr ⟨j+1,e,by rw [h1,show i+1+j=i+(j+1) by omega],h2,h3⟩
theorem zOG (K N A:Int) (w:World) (l:List MapEntry) (h: ∀x ∈ l,zKG x.key):
  ((Instr.findKey 75 (keyV K N A) l).run Tryz.prog w= .ok none w∧ ∀x ∈ l,x.key≠keyV K N A)∨
  (∃j e,(Instr.findKey 75 (keyV K N A) l).run Tryz.prog w= .ok (some (j,e.val)) w∧l[j]? =some e∧e.key=keyV K N A):=by
 cases l with
 | nil=>
  refine .inl ⟨?_,fun x h=>by cases h⟩
  simp only [Instr.findKey,Instr.findNow,Sem.run_bind,run_underlying Tryz.underlying75,Result.andThen_ok]
  rfl
 | cons x l=>
  have hr:(Instr.findKey 75 (keyV K N A) (x :: l)).run Tryz.prog w=(Instr.findAsking 75 (keyV K N A) (x :: l) 0).run Tryz.prog w:=by
   simp only [Instr.findKey,Instr.findNow,Instr.sameNow,Sem.run_bind,run_underlying Tryz.underlying75,Result.andThen_ok]
  rw [hr]
  rcases zMm K N A w (x :: l) 0 h with h1|⟨j,e,h1,h2⟩
  ·exact .inl h1
  ·exact .inr ⟨j,e,by rw [h1,Nat.zero_add],h2⟩
theorem zMx (n:Nat) (K N A:Int):Instr.sameBits (n+2) (keyV K N A) (keyV K N A)=true:=by
 simp [keyV,Instr.sameBits]
theorem zU5 (K N A:Int) (w:World):(Instr.keyThatStays (keyV K N A) (keyV K N A)).run Tryz.prog w= .ok (keyV K N A) w:=by
 have h:Instr.sameBits 10000 (keyV K N A) (keyV K N A)=true:=zMx 9998 K N A
 unfold Instr.keyThatStays
 rw [if_pos h]
 rfl
theorem zWe:Tryz.prog.underlying 118=some (.map 75 36):=by kernel_rfl
theorem zWi (w:World):(zeroValue 36).run Tryz.prog w= .ok (.agg (zD7 (0,0,0))) w:=by kernel_rfl
def zKN (w:World) (bm:Nat) (ord:List PlT):Prop:=
 ∃ms clock,w.heap[bm]? =some (.map ms clock)∧MapKept.Stamped ms clock∧
  ∀x ∈ ms.toList,∃p n k:Int,x.key=keyV p n k∧x.val= .agg (zD7 (chP p n k))∧chE p n k=0∧(p,n,k) ∈ ord
theorem zKN.lt {w:World} {bm:Nat} {ord:List PlT} (h:zKN w bm ord):bm<w.heap.size:=by
 obtain ⟨ms,clock,hm,_⟩:=h
 exact (Array.getElem?_eq_some_iff.1 hm).1
theorem zKN.same {w w':World} {bm:Nat} {ord:List PlT} (h:zKN w bm ord) (hb:w'.heap[bm]? =w.heap[bm]?):zKN w' bm ord:=by
 obtain ⟨ms,clock,hm,hs,hx⟩:=h
 exact ⟨ms,clock,hb.trans hm,hs,hx⟩
theorem zKN.below {w w':World} {bm:Nat} {ord:List PlT} (h:zKN w bm ord) (hb:Below w.heap.size w w'):zKN w' bm ord:=h.same (hb.block bm h.lt)
theorem zKN.sub {w:World} {bm:Nat} {ord ord':List PlT} (h:zKN w bm ord) (hs: ∀x ∈ ord,x ∈ ord'):zKN w bm ord':=by
 obtain ⟨ms,clock,hm,hst,hx⟩:=h
 exact ⟨ms,clock,hm,hst,fun x h=>by obtain ⟨p,n,k,a,b,c,d⟩:=hx x h;exact ⟨p,n,k,a,b,c,hs _ d⟩⟩
theorem zT8 {w:World} {bm:Nat} {ord:List PlT} (h:zKN w bm ord) (p n k:Int) (he:chE p n k=0) (hi:(p,n,k) ∈ ord):
  ∃w',(Instr.mapUpdate 118 (.map (some bm)) (keyV p n k) (.agg (zD7 (chP p n k)))).run Tryz.prog w= .ok () w'∧zKN w' bm ord∧But bm w w':=by
 obtain ⟨ms,clock,hm,hs,hx⟩:=h
 have hB: ∀o,But bm w { w with heap:=w.heap.setIfInBounds bm o }:=fun o=>⟨rfl,rfl,rfl,by simp,fun k _ hne=>(MapKept.heap_set hm).2 k hne⟩
 rcases zOG p n k w ms.toList (fun x h=>by obtain ⟨a,b,c,h,_⟩:=hx x h;exact ⟨a,b,c,h⟩) with ⟨h1,h2⟩|⟨j,e,h1,h2,h3⟩
 ·refine ⟨_,by simp [Instr.mapUpdate,run_underlying zWe,MapKept.run_getObj_map hm,zNb,h1,MapKept.run_setObj_map _ hm,Result.andThen];rfl,?_,hB _⟩
  refine ⟨_,_,(MapKept.heap_set hm).1,MapKept.stamped_push hs h2,fun x h=>?_⟩
  rw [Array.toList_push,List.mem_append] at h
  rcases h with h|h
  ·exact hx x h
  ·rw [List.mem_singleton] at h
   subst h
   exact ⟨p,n,k,rfl,rfl,he,hi⟩
 ·have h2':ms[j]? =some e:=by rw [←Array.getElem?_toList];exact h2
  refine ⟨_,by simp [Instr.mapUpdate,run_underlying zWe,MapKept.run_getObj_map hm,zNb,h1,h2',h3,zU5,MapKept.run_setObj_map _ hm,Result.andThen];rfl,?_,hB _⟩
  refine ⟨_,_,(MapKept.heap_set hm).1,MapKept.stamped_modify hs _ _ (fun _ _=>rfl) (fun x _ hj=>by rw [h2'] at hj;have hj:=Option.some.inj hj;rw [←hj];exact h3.symm),fun x h=>?_⟩
  obtain ⟨i,hi',rfl⟩:=List.getElem_of_mem h
  rw [Array.getElem_toList,Array.getElem_modify]
  split
  ·exact ⟨p,n,k,rfl,rfl,he,hi⟩
  ·exact hx _ (Array.getElem_mem_toList _)
theorem zRu {w:World} {bm:Nat} {ord ord':List PlT} (h:zKN w bm ord) (p n k:Int) (hs': ∀x ∈ ord,x≠(p,n,k)→x ∈ ord') (ty:TypeId):
  ∃w',(Builtin.delete_ #[118,75] ty #[.map (some bm),keyV p n k]).run Tryz.prog w= .ok (.tuple #[]) w'∧zKN w' bm ord'∧But bm w w':=by
 obtain ⟨ms,clock,hm,hs,hx⟩:=h
 have hB: ∀o,But bm w { w with heap:=w.heap.setIfInBounds bm o }:=fun o=>⟨rfl,rfl,rfl,by simp,fun k _ hne=>(MapKept.heap_set hm).2 k hne⟩
 rcases zOG p n k w ms.toList (fun x h=>by obtain ⟨a,b,c,h,_⟩:=hx x h;exact ⟨a,b,c,h⟩) with ⟨h1,h2⟩|⟨j,e,h1,h2,h3⟩
 ·refine ⟨_,by simp [Builtin.delete_,run_underlying zWe,MapKept.run_getObj_map hm,zNb,h1,MapKept.run_setObj_map _ hm,Result.andThen];rfl,?_,hB _⟩
  refine ⟨_,_,(MapKept.heap_set hm).1,hs,fun x h=>?_⟩
  obtain ⟨a,b,c,h4,h5,h6,h7⟩:=hx x h
  exact ⟨a,b,c,h4,h5,h6,hs' _ h7 (fun e=>h2 x h (by rw [h4];injection e with e1 e;injection e with e2 e3;rw [e1,e2,e3]))⟩
 ·have h2':ms[j]? =some e:=by rw [←Array.getElem?_toList];exact h2
  refine ⟨_,by simp [Builtin.delete_,run_underlying zWe,MapKept.run_getObj_map hm,zNb,h1,MapKept.run_setObj_map _ hm,Result.andThen];rfl,?_,hB _⟩
  refine ⟨_,_,(MapKept.heap_set hm).1,MapKept.stamped_erase hs _,fun x h=>?_⟩
  have hj:=(Array.getElem?_eq_some_iff.1 h2').1
  have hl:(ms.eraseIdxIfInBounds j).toList=ms.toList.eraseIdx j:=by unfold Array.eraseIdxIfInBounds;rw [dif_pos hj,Array.toList_eraseIdx]
  rw [hl] at h
  obtain ⟨a,b,c,h4,h5,h6,h7⟩:=hx x ((List.eraseIdx_sublist _ _).subset h)
  refine ⟨a,b,c,h4,h5,h6,hs' _ h7 (fun e'=>?_)⟩
  have hk:x.key=e.key:=by rw [h4,h3];injection e' with e1 e2;injection e2 with e2 e3;rw [e1,e2,e3]
  obtain ⟨i,hi,hij⟩:=List.mem_eraseIdx_iff_getElem.1 h
  have hp:=((MapKept.stamped_iff _ _).1 hs).2.2
  obtain ⟨hjl,hje⟩:=List.getElem?_eq_some_iff.1 h2
  obtain ⟨hne,hie⟩:=hij
  rcases Nat.lt_or_gt_of_ne hne with hlt|hlt
  ·exact List.pairwise_iff_getElem.1 hp i j hi hjl hlt (by rw [hie,hje];exact hk)
  ·exact List.pairwise_iff_getElem.1 hp j i hjl hi hlt (by rw [hie,hje];exact hk.symm)
theorem zT7 (w:World) (ord:List PlT):zKN (w.alloc (.map #[] 0)) w.heap.size ord:=⟨#[],0,World.alloc_heap_new _ _,MapKept.stamped_empty _,fun x h=>by simp at h⟩
end

section
def zW1 (l:List PlT):List Value:=l.flatMap fun x=> [.int .u64 x.1, .int .i64 x.2.1, .int .i64 x.2.2]
theorem zXj (l m:List PlT):zW1 (l ++ m)=zW1 l ++ zW1 m:=by simp [zW1]
theorem zXw (l:List PlT):(zW1 l).length=l.length*3:=by
 induction l with
 | nil=>rfl
 | cons x l ih=>
  show (List.length ([.int .u64 x.1, .int .i64 x.2.1, .int .i64 x.2.2] ++ zW1 l))=_
  rw [List.length_append,ih];simp;omega
theorem zXx (l:List PlT): ∀u ∈ zW1 l,u.oneCell'=true:=fun u hu=>by
 obtain ⟨x,_,hx⟩:=List.mem_flatMap.1 hu
 simp at hx
 rcases hx with rfl|rfl|rfl <;> rfl
theorem zXy (l:List PlT) (i:Nat):(zW1 l).take (i*3)=zW1 (l.take i):=by
 induction l generalizing i with
 | nil=>simp [zW1]
 | cons x l ih=>
  cases i with
  | zero=>simp [zW1]
  | succ i=>
   rw [show zW1 (x :: l)= [.int .u64 x.1, .int .i64 x.2.1, .int .i64 x.2.2] ++ zW1 l from rfl,show (i+1)*3=3+i*3 by omega,List.take_succ_cons]
   show _= [.int .u64 x.1, .int .i64 x.2.1, .int .i64 x.2.2] ++ zW1 (l.take i)
   rw [←ih,List.take_append,List.length_cons,List.length_cons,List.length_cons,List.length_nil]
   rw [List.take_of_length_le (by simp),show 3+i*3-(0+1+1+1)=i*3 by omega]
theorem zXu (l:List PlT) (i:Nat):(zW1 l).drop (i*3)=zW1 (l.drop i):=by
 have h:=List.take_append_drop i l
 have h1:=zXy l i
 have h2:zW1 l=zW1 (l.take i) ++ zW1 (l.drop i):=by rw [←zXj,h]
 have h3:=List.take_append_drop (i*3) (zW1 l)
 rw [h1] at h3
 exact List.append_cancel_left (h3.trans h2)
theorem zXv (l:List PlT) (j:Nat) (hj:j<l.length): ∀i v,([.int .u64 (l.getD j (0,0,0)).1, .int .i64 (l.getD j (0,0,0)).2.1, .int .i64 (l.getD j (0,0,0)).2.2]:List Value)[i]? =some v→(zW1 l)[j*3+i]? =some v:=by
 intro i v hv
 have h1:(zW1 l)[j*3+i]? =((zW1 l).drop (j*3))[i]? :=by rw [List.getElem?_drop]
 rw [h1,zXu,List.drop_eq_getElem_cons hj]
 have h2:l.getD j (0,0,0)=l[j]:=by rw [List.getD_eq_getElem?_getD,List.getElem?_eq_getElem hj];rfl
 rw [h2] at hv
 show ([.int .u64 l[j].1, .int .i64 l[j].2.1, .int .i64 l[j].2.2] ++ zW1 (l.drop (j+1)))[i]? =some v
 rw [List.getElem?_append_left]
 ·exact hv
 ·exact (List.getElem?_eq_some_iff.1 hv).1
theorem zWx (g n:Nat):(⟨g,0,none⟩:Addr).add n=⟨g,n,none⟩:=by unfold Addr.add;split <;> simp_all
def RdK (w:World) (g:Nat) (l:List PlT):Prop:= ∀j,j<l.length→w.rangeAt g (j*3) [.int .u64 (l.getD j (0,0,0)).1, .int .i64 (l.getD j (0,0,0)).2.1, .int .i64 (l.getD j (0,0,0)).2.2]
theorem RdK.of_own {w:World} {B g n c:Nat} {l:List PlT} (h:w.ownsRow B 75 3 (.slice (some ⟨g,0,none⟩) n c) n (zW1 l)):RdK w g l:=fun j hj i v hv=>by
 have h1:=h.cells (g:=g) rfl (j*3+i) v (zXv l j hj i v hv)
 rw [zWx] at h1
 exact h1
theorem RdK.below {w w':World} {g:Nat} {l:List PlT} (h:RdK w g l) (hb:Below w.heap.size w w'):RdK w' g l:=fun j hj i v hv=>by
 have h1:=h j hj i v hv
 exact zDs hb (World.block_lt_of_cell? _ _ h1) h1
theorem zX1:(Tryz.prog.info? 75).map (·.size)=some 3:=by kernel_rfl
theorem zW0 (a b c d e f:Int) (w:World):(Op.equalIn 10000 75 (.agg #[.int .u64 a, .int .i64 b, .int .i64 c]) (.agg #[.int .u64 d, .int .i64 e, .int .i64 f])).run Tryz.prog w= .ok (a == d && b == e && c == f) w:=zOE a b c d e f w
section
attribute [local go_sem] zW0
theorem zX0 {w:World} {B g c:Nat} {L:List PlT} (hown:w.ownsRow B 75 3 (.slice (some ⟨g,0,none⟩) L.length c) L.length (zW1 L)) (x0 x1 x2:Int) (hx:(x0,x1,x2) ∈ L) (hl:L.length≤64):
  Calls Tryz.prog 211 #[.slice (some ⟨g,0,none⟩) L.length c, .agg #[.int .u64 x0, .int .i64 x1, .int .i64 x2]] w fun e w'=> ∃i:Nat,e= .returned (.int .i64 i)∧i<L.length∧L.getD i (0,0,0)=(x0,x1,x2)∧Below w.heap.size w w':=by
 have HRd:=zy (RdK.of_own hown)
 have R1:=zy (lay1 w 75 #[.int .u64 x0, .int .i64 x1, .int .i64 x2])
 have hgl:g<w.heap.size:=(hown.lt g rfl).2
 obtain ⟨n,hn⟩: ∃n,n=L.length:=⟨_,rfl⟩
 have HN:=zy hn
 have HMem:=zy hx
 rw [←hn] at hl ⊢
 clear hown hn hx
 go_enter Tryz.func211,Tryz.ntmps211
 go_wp2_with fail
 go_loopw [8] (fun I wr=> ∃i:Nat,I= .int .i64 i∧i≤n∧Hid (∀j,j<i→L.getD j (0,0,0)≠(x0,x1,x2))∧Hid (zAI wr w.heap.size 75 #[.int .u64 x0, .int .i64 x1, .int .i64 x2]∧Below w.heap.size w wr)) (fun I _=>n-(intOf I).toNat)
 case atStart=>exact ⟨0,rfl,by omega,zy (fun j hj=>by omega),R1⟩
 case round=>
  clear R1
  obtain ⟨i,rfl,hin,HJ,P⟩:=hrel
  by_cases hlt:i<n
  ·have hrd:=(HRd.out i (by rw [←HN.out];exact hlt))
   obtain ⟨⟨y0,y1,y2⟩,hy⟩: ∃y,y=L.getD i (0,0,0):=⟨_,rfl⟩
   rw [←hy] at hrd
   have HRd0:Hid ((wr.drewN 1).rangeAt g (i*3) [.int .u64 y0, .int .i64 y1, .int .i64 y2]):=zy (fun j v hv=>by
    have h1:=hrd j v hv
    exact zDs (below_drewN P.out.2 1) (World.block_lt_of_cell? _ _ h1) h1)
   have P0:Hid (zAI (wr.drewN 1) w.heap.size 75 #[.int .u64 x0, .int .i64 x1, .int .i64 x2]∧Below w.heap.size w (wr.drewN 1)):=zy ⟨P.out.1,below_drewN P.out.2 1⟩
   have HY:=zy hy
   have i1:(0:Int)≤(i:Int):=by omega
   have i2:(i:Int)<(n:Int):=by omega
   obtain ⟨b,hbq⟩: ∃b,b=(x0 == y0 && x1 == y1 && x2 == y2):=⟨_,rfl⟩
   have HBq:=zy hbq
   clear hrd hy P hbq
   go_wp2_with fail
   refine wp_region_held_drew (S:=fun wz=>wz.rangeAt g (i*3) [.int .u64 y0, .int .i64 y1, .int .i64 y2]∧zAI wz w.heap.size 75 #[.int .u64 x0, .int .i64 x1, .int .i64 x2]) (by kernel_rfl) (⟨HRd0.out,P0.out.1⟩) (fun hHeld=>?_)
   refine zQ (i:=0) rfl (by kernel_rfl) (fun _ _ _=>id) (zXh (by rfl) _ _ rfl _ rfl _ _ _ (fun wz h=>h.2) Tryz.underlying75 rfl (by exact zX1)) ⟨HRd0.out,P0.out.1⟩ ?_
   try simp only [zv,zx]
   refine zj (i:=1) (v:=?_) rfl (by kernel_rfl) (fun _ _ _=>id) (by rfl) ?_ ⟨HRd0.out,P0.out.1⟩ ?_
   rotate_left
   ·intro w h;go_simp;try with_reducible rfl
   try simp only [zv,zx]
   refine zj (i:=2) (v:=?_) rfl (by kernel_rfl) (fun _ _ _=>id) (by rfl) ?_ ⟨HRd0.out,P0.out.1⟩ ?_
   rotate_left
   ·intro w h;go_simp;try with_reducible rfl
   try simp only [zv,zx]
   refine zj (i:=3) (v:=?_) rfl (by kernel_rfl) (fun _ _ _=>id) (by rfl) ?_ ⟨HRd0.out,P0.out.1⟩ ?_
   rotate_left
   ·intro w h;go_simp;try with_reducible rfl
   try simp only [zv,zx]
   refine zQ (i:=4) rfl (by kernel_rfl) (fun _ _ _=>id) (yieldsIf_load_mid (by rfl) _ _ rfl _ _ rfl _ _ (fun wz h=>h.1) Tryz.underlying75 rfl (by exact zX1)) (⟨HRd0.out,P0.out.1⟩) ?_
   try simp only [zv,zx]
   refine zj (i:=5) (v:= .bool b) rfl (by kernel_rfl) (fun _ _ _=>id) (by rfl) ?_ ⟨HRd0.out,P0.out.1⟩ ?_
   ·intro w h;go_simp;by_cases q1:x0=y0 <;> by_cases q2:x1=y1 <;> by_cases q3:x2=y2 <;> simp [HBq.out,q1,q2,q3]
   try simp only [zv,zx]
   refine wpAnyH_done (by kernel_rfl) ?_ _
   by_cases he:(y0,y1,y2)=(x0,x1,x2)
   ·obtain rfl:b=true:=by
     rw [HBq.out]
     injection he with e1 e2;injection e2 with e2 e3
     subst e1 e2 e3;simp
    have HE:=zy he
    clear he
    go_wp2
    go_ret
    exact ⟨i,rfl,hlt,by rw [←HY.out];exact HE.out,P0.out.2⟩
   ·obtain rfl:b=false:=by
     rw [HBq.out,Bool.eq_false_iff]
     intro hc
     simp only [Bool.and_eq_true,beq_iff_eq] at hc
     obtain ⟨⟨rfl,rfl⟩,rfl⟩:=hc
     exact he rfl
    have HJ2:Hid (∀j,j<i+1→L.getD j (0,0,0)≠(x0,x1,x2)):=zy (fun j hj=>by
     rcases Nat.lt_or_ge j i with h|h
     ·exact HJ.out j h
     ·obtain rfl:j=i:=by omega
      rw [←HY.out];exact he)
    clear he
    go_wp2
    go_roundw
    case rel=>exact ⟨i+1,by go_num,by omega,HJ2,P0⟩
    case measure=>simp [intOf];omega
  ·exfalso
   obtain ⟨j,hj,hj2⟩:=List.getElem_of_mem HMem.out
   have:=HN.out
   refine HJ.out j (by omega) ?_
   rw [List.getD_eq_getElem?_getD,List.getElem?_eq_getElem hj,←hj2];rfl
end
end

section
theorem But.of_grown {g:Nat} {w w':World} (h:w.grownBy w' (some g)):But g w w':=⟨h.os,h.tape,h.output,h.size,fun k hk hne=>h.block k hk (by simpa using hne)⟩
theorem zX3 {P:Program} {w:World} {o:Oper} {a:Act} {K:Act→World→Prop} {Q:Exit→Act→World→Prop} (s x:Operand) (t:TypeId)
  (ho:o.op= .call { callee:= .builtin .append,args:= #[s,x],argTypes:= #[t,t] })
  (base:Nat) (e:TypeId) (i:TypeInfo) (size:Nat) (ht:P.underlying t=some (.slice e)) (hi:P.info? e=some i) (hsize:i.size=size)
  (g n cap:Nat) (xs:List Value) (hs:a.eval s= .slice (some ⟨g,0,none⟩) n cap) (hown:w.ownsRow base e size (.slice (some ⟨g,0,none⟩) n cap) n xs)
  (ad:Addr) (m c:Nat) (news:List Value) (hx:a.eval x= .slice (some ad) m c) (hl:news.length=m*size) (hnews: ∀j u,news[j]? =some u→w.cell? (ad.add j)=some u) (h1: ∀u ∈ news,u.oneCell'=true)
  (hroom:n+m≤cap)
  (h: ∀w',w'.ownsRow base e size (.slice (some ⟨g,0,none⟩) (n+m) cap) (n+m) (xs ++ news)→w.grownBy w' (some g)→K (a.put o.dst (.slice (some ⟨g,0,none⟩) (n+m) cap)) w'):o.wp P a w K Q:=by
 obtain ⟨w',hr,h2,h3⟩:=run_append_fits (P:=P) w base t o.type e i size ht hi hsize g n cap xs hown ad m c news hl hnews h1 hroom
 unfold Oper.wp execOp
 simp only [ho,resolve,invoke,builtin,Sem.run_bind,Sem.run_pure,Result.andThen_ok,List.map_toArray,List.map_cons,List.map_nil,hs,hx,hr]
 exact h w' h2 h3
theorem zX4 (w:World):(zeroValue 75).run Tryz.prog w= .ok (.agg #[.int .u64 0, .int .i64 0, .int .i64 0]) w:=by kernel_rfl
theorem zXz {w:World} {B g m c:Nat} {xs:List Value} (hown:w.ownsRow B 75 3 (.slice (some ⟨g,0,none⟩) m c) m xs) (hm:m+1≤c) (ty:TypeId) (cc:Nat):
  ∃w',(Builtin.clear_ #[119] ty #[.slice (some ⟨g,m*3,none⟩) 1 cc]).run Tryz.prog w= .ok (.tuple #[]) w'∧w'.ownsRow B 75 3 (.slice (some ⟨g,0,none⟩) m c) m xs∧w.grownBy w' (some g):=by
 obtain ⟨hlen,h⟩:=hown
 rcases h with ⟨h,_⟩|⟨g',cap',cur,h,hbg,hg,hnc,hcm,hcs,htake⟩
 ·simp at h
 ·simp only [Value.slice.injEq,Option.some.injEq,Addr.mk.injEq,and_true,true_and] at h
  obtain ⟨rfl,rfl⟩:=h
  have hfit:m*3+3≤cur.size:=by rw [hcs];omega
  have hst:=run_storeCells_at Tryz.prog g (m*3) 75 [.int .u64 0, .int .i64 0, .int .i64 0] 0 cur w hg (by simpa using hfit) (zXx [(0,0,0)])
  simp only [Nat.add_zero] at hst
  obtain ⟨R,hR⟩: ∃R:Array Value,R=(cur.toList.take (m*3) ++ zW1 [(0,0,0)] ++ cur.toList.drop (m*3+(zW1 [(0,0,0)]).length)).toArray:=⟨_,rfl⟩
  have hrun:(Builtin.clear_ #[119] ty #[.slice (some ⟨g,m*3,none⟩) 1 cc]).run Tryz.prog w= .ok (.tuple #[]) (w.setRow g R):=by
   rw [hR]
   simp only [Builtin.clear_]
   simp [run_underlying Tryz.underlying119,zX4,Builtin.zeroCells,Value.cells,Result.andThen]
   have e3:List.map (fun i=>([.int .u64 0, .int .i64 0, .int .i64 0]:List Value)[i%3]?.getD default) (List.range 3)= [.int .u64 0, .int .i64 0, .int .i64 0]:=rfl
   simp [zW1] at hst ⊢
   rw [e3,hst]
  refine ⟨w.setRow g R,hrun,⟨hlen, .inr ⟨g,c,R,rfl,hbg,setRow_heap w g cur _ 75 _ hg,hnc,hcm,?_,?_⟩⟩,⟨rfl,rfl,rfl,by simp,fun k _ hk=>setRow_other w g k _ (fun e=>hk (by simp [e]))⟩⟩
  ·rw [hR]
   simp only [List.size_toArray,List.length_append,List.length_take,List.length_drop,Array.length_toList,zXw,List.length_cons,List.length_nil]
   omega
  ·rw [←htake,hR]
   show List.take (m*3) (cur.toList.take (m*3) ++ zW1 [(0,0,0)] ++ cur.toList.drop (m*3+(zW1 [(0,0,0)]).length))=_
   have hl:(cur.toList.take (m*3)).length=m*3:=by simp;omega
   rw [List.append_assoc,List.take_append_of_le_length (by omega),List.take_take,Nat.min_self]
end

section
theorem zX5:(Tryz.prog.info? 75).map (fun i=>(i.zero,i.size,i.bytes))=some (some (.agg #[.int .u64 0, .int .i64 0, .int .i64 0]),3,24):=by kernel_rfl
theorem zX6 {w:World} {B g c n i:Nat} {L:List PlT} (hown:w.ownsRow B 75 3 (.slice (some ⟨g,0,none⟩) n c) n (zW1 L)) (hi':i<n) (hn64:n≤64):
  Calls Tryz.prog 182 #[.slice (some ⟨g,0,none⟩) n c, .int .i64 (i:Nat), .int .i64 ((i+1:Nat):Int)] w fun e w'=>e= .returned (.slice (some ⟨g,0,none⟩) (n-1:Nat) c)∧w'.ownsRow B 75 3 (.slice (some ⟨g,0,none⟩) (n-1) c) (n-1) (zW1 (L.eraseIdx i))∧But g w w':=by
 obtain ⟨i0,hi,hz0,hz1,hz2⟩:=info_parts zX5
 have hlen:L.length=n:=by have h:=hown.1;rw [zXw] at h;omega
 have hgl:=(hown.lt g rfl).2
 have hnc:n≤c:=by
  rcases hown.2 with ⟨h,_⟩|⟨g',cap,cur,h,_,_,r1,_⟩
  ·cases h
  ·injection h with a b d;omega
 have hrd: ∀t,t<L.length*3→w.cell? ⟨g,t,none⟩=(zW1 L)[t]? :=fun t ht=>hown.cellAt t (by rw [←hlen];exact ht)
 have hOi:(w.drewN 1).ownsRow B 75 3 (.slice (some ⟨g,0,none⟩) i c) i (zW1 (L.take i)):=by
  rcases hown.2 with ⟨h,_⟩|⟨g',cap,cur,h,h1,h2,r1,r2,r3,r4⟩
  ·cases h
  ·injection h with a b d
   injection a with a
   injection a with a
   subst a d
   refine ⟨by rw [zXw,List.length_take];omega, .inr ⟨_,_,cur,rfl,h1,h2,by omega,r2,r3,?_⟩⟩
   rw [←zXy,←r4,List.take_take,Nat.min_eq_left (by omega)]
 obtain ⟨j,hj⟩: ∃j,j=i+1:=⟨_,rfl⟩
 rw [←hj]
 have hjn:j≤n:=by omega
 have hjc:j≤c:=by omega
 have hic:i≤c:=by omega
 obtain ⟨AD,hAD⟩: ∃AD:Addr,some AD=(if c=j then some (⟨g,0,none⟩:Addr) else some ⟨g,j*3,none⟩):=by
  by_cases h:c=j
  ·exact ⟨_,(if_pos h).symm⟩
  ·exact ⟨_,(if_neg h).symm⟩
 have hNs: ∀t u,(zW1 (L.drop j))[t]? =some u→(w.drewN 1).cell? (AD.add t)=some u:=fun t u hu=>by
  have ht:=(List.getElem?_eq_some_iff.1 hu).1
  rw [zXw,List.length_drop] at ht
  have hcj: ¬c=j:=by omega
  rw [if_neg hcj] at hAD
  obtain rfl:=Option.some.inj hAD
  rw [Addr.add_lit]
  show w.cell? _=_
  rw [hrd _ (by omega),←hu,←zXu,List.getElem?_drop]
 have HNs:=zy hNs
 have HNl:Hid ((zW1 (L.drop j)).length=(n-j)*3):=zy (by rw [zXw,List.length_drop,hlen])
 have HOi:=zy hOi
 have HAD:=zy hAD
 have hek:zW1 (L.take i) ++ zW1 (L.drop j)=zW1 (L.eraseIdx i):=by rw [←zXj,hj,List.eraseIdx_eq_take_drop_succ]
 have HEk:=zy hek
 obtain ⟨m,hm⟩: ∃m,m=n-1:=⟨_,rfl⟩
 have hm1:i+(n-j)=m:=by omega
 have hm2:m≤n:=by omega
 have hm3:m+1≤c:=by omega
 have hm4:n-m=1:=by omega
 have hm5: ¬c=m:=by omega
 have tij:((i:Int) == (j:Int))=false:=by simp;omega
 have hji:i≤j:=by omega
 rw [←hm]
 clear hown hrd hOi hNs hAD hek hm hj hlen
 go_enter Tryz.func182,Tryz.ntmps182
 go_wp2_with fail
 refine wp_region_held_drew (S:=fun _=>True) (by kernel_rfl) (trivial) (fun hHeld=>?_)
 refine zj (i:=0) (v:=?_) rfl (by kernel_rfl) (fun _ _ _=>id) (by rfl) ?_ trivial ?_
 rotate_left
 ·intro w h;go_simp;try with_reducible rfl
 try simp only [zv,zx]
 refine zj (i:=1) (v:=?_) rfl (by kernel_rfl) (fun _ _ _=>id) (by rfl) ?_ trivial ?_
 rotate_left
 ·intro w h;go_simp;try with_reducible rfl
 try simp only [zv,zx]
 refine zj (i:=2) (v:= .slice (some ⟨g,0,none⟩) i c) rfl (by kernel_rfl) (fun _ _ _=>id) (by rfl) ?_ trivial ?_
 ·intro w h;go_simp;try (rw [if_pos hic])
 try simp only [zv,zx]
 refine zj (i:=3) (v:=?_) rfl (by kernel_rfl) (fun _ _ _=>id) (by rfl) ?_ trivial ?_
 rotate_left
 ·intro w h;go_simp;try with_reducible rfl
 try simp only [zv,zx]
 refine zj (i:=4) (v:=?_) rfl (by kernel_rfl) (fun _ _ _=>id) (by rfl) ?_ trivial ?_
 rotate_left
 ·intro w h;go_simp;try with_reducible rfl
 try simp only [zv,zx]
 refine zj (i:=5) (v:= .slice (some AD) (n-j) (c-j)) rfl (by kernel_rfl) (fun _ _ _=>id) (by rfl) ?_ trivial ?_
 ·intro w h;go_simp;try (first|exact HAD.out.symm|(rw [if_pos hjn,←HAD.out]))
 try simp only [zv,zx]
 refine wpAnyH_ready (rs:= [6]) (by kernel_rfl) (by simp) ?_
 refine AllReadyH.cons rfl (fun K hK=>?_) AllReadyH.nil
 try simp only [zx]
 rw [if_pos (by rfl)]
 refine zX3 _ _ 119 rfl B 75 i0 3 Tryz.underlying119 hi hz1 g i c (zW1 (L.take i)) rfl HOi.out AD (n-j) (c-j) (zW1 (L.drop j)) rfl HNl.out HNs.out (zXx _) (by omega) ?_
 intro w4 ho4 hg4
 have HO4:=zy ho4
 have HG4:=zy (But.of_grown hg4)
 clear ho4 hg4
 refine hK.out _ _ (trivial) (fun _=>?_)
 clear hK K
 try simp only [zv,zx]
 refine zj (i:=7) (v:=?_) rfl (by kernel_rfl) (fun _ _ _=>id) (by rfl) ?_ trivial ?_
 rotate_left
 ·intro w h;go_simp;try with_reducible rfl
 try simp only [zv,zx]
 refine wpAnyH_done (by kernel_rfl) ?_ _
 have HO5:Hid (w4.ownsRow B 75 3 (.slice (some ⟨g,0,none⟩) m c) m (zW1 (L.eraseIdx i))):=zy (by
  have h:=HO4.out
  rw [hm1,HEk.out] at h
  exact h)
 rw [hm1]
 clear HO4
 obtain ⟨w5,hr5,ho5,hg5⟩:=zXz HO5.out hm3 0 (c-m)
 have HO6:=zy ho5
 have HB6:Hid (But g w w5):=zy ((But.of_below (below_drewN (Below.refl _ _) 1)).trans (HG4.out.trans (But.of_grown hg5)))
 clear ho5 hg5 HO5 HG4
 go_wp2_with fail
 go_ret
 exact ⟨rfl,HO6.out,HB6.out⟩
end
end Go.Proofs.YtmalmijdjhkklaaGreat
