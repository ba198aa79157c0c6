/- plan.Run. -/
import Derived.Test.YtmalmijdjhkklaaGreatWCopAToCopD
import Derived.Test.YtmalmijdjhkklaaGreatWPlOToOf18
import Derived.Test.YtmalmijdjhkklaaGreatRaR
import Derived.Test.YtmalmijdjhkklaaGreatChR
import Derived.Test.YtmalmijdjhkklaaGreatRad4F
import Derived.Test.YtmalmijdjhkklaaGreatWR2UDfRR2D
set_option linter.unusedVariables false
set_option linter.unusedSimpArgs false
set_option linter.unusedSectionVars false
namespace Go.Proofs.YtmalmijdjhkklaaGreat
open Go.RowKit
open Alg
def RunQ (p:Nat) [NeZero p] (g:Int) (L:List Int) (inv:Bool) (er:Int) (B:Nat) (V:Value) (w':World):Prop:=
 (er=0∧OwnU w' B V L.length (lst L.length (tr (zt p g) L.length inv (rz p L))))∨(er≠0∧V= .slice none 0 0)
theorem RunQ.mono {p:Nat} [NeZero p] {g:Int} {L:List Int} {inv:Bool} {er:Int} {B B':Nat} {V:Value} {w':World} (h:RunQ p g L inv er B V w') (hb:B'≤B):RunQ p g L inv er B' V w':=h.imp (fun h=>⟨h.1,h.2.mono hb⟩) id
def zI4 (p:Int) (L:List Int):Int:=if zI1 p L=false then 9 else 0
def CalP (p:Nat) [NeZero p] (g:Int) (L:List Int) (inv:Bool) (F:FuncId) (args:Array Value) (w:World):Prop:=
 Calls Tryz.prog F args w fun e w'=> ∃V,e= .returned (.tuple #[V, .int .i64 (zI4 p L)])∧RunQ p g L inv (zI4 p L) w.heap.size V w'∧Below w.heap.size w w'
theorem zCU {p:Nat} [NeZero p] {g:Int} {L:List Int} {inv:Bool} {F:FuncId} {args:Array Value} {w:World} {f:Int} (hf:f=zI4 p L)
  (hy:f=0→Calls Tryz.prog F args w fun e w'=> ∃V,e= .returned (.tuple #[V, .int .i64 0])∧OwnU w' w.heap.size V L.length (lst L.length (tr (zt p g) L.length inv (rz p L)))∧Below w.heap.size w w')
  (hn:f≠0→Calls Tryz.prog F args w fun e w'=>e= .returned (.tuple #[.slice none 0 0, .int .i64 f])∧Below w.heap.size w w'):CalP p g L inv F args w:=by
 unfold CalP
 by_cases h0:f=0
 ·refine (hy h0).mono ?_
  rintro e w' ⟨V,he,ho,hb⟩
  exact ⟨V,by rw [←hf,h0];exact he, .inl ⟨by rw [←hf];exact h0,ho⟩,hb⟩
 ·refine (hn h0).mono ?_
  rintro e w' ⟨he,hb⟩
  exact ⟨_,by rw [←hf];exact he, .inr ⟨by rw [←hf];exact h0,rfl⟩,hb⟩
theorem zSW {P:Program} {F:FuncId} {args:Array Value} {w:World} {x:Ending} (h:Calls P F args w fun e w'=>e=x∧w=w'):Calls P F args w fun e w'=>e=x∧Below w.heap.size w w':=
 h.mono fun e w' ⟨he,hw⟩=>⟨he,hw ▸ Below.refl _ _⟩
theorem zCX {p:Nat} [NeZero p] {w:World} {v:Value} {g:Int} (hp:Prime p) (hg:Ord (zt p g) (p-1)) (g0:0≤g) (g1:g<p) (h:Fd w w.heap.size v p g) (A:Option Addr) (c:Nat) (L:List Int) (inv:Bool) (hU:U64s L) (hR:RdI w w.heap.size .u64 A L) (hl:L.length≤140737488351232) (hc:chk p L.length 1024=0):CalP p g L inv 69 #[v, .slice A L.length c, .bool inv] w:=
 zCU (f:=zGB p L) (by unfold zGB zI4;rw [if_neg (by simp [hc])]) (fun hf=>zF2 hp hg g0 g1 h A c L inv hU hR hf) (fun hf=>zSW (zF1 h A c L inv hl hU hR hf))
theorem zCY {p:Nat} [NeZero p] {w:World} {v:Value} {g:Int} (hp:Prime p) (hg:Ord (zt p g) (p-1)) (g0:0≤g) (g1:g<p) (h:Fd w w.heap.size v p g) (A:Option Addr) (c:Nat) (L:List Int) (inv:Bool) (hU:U64s L) (hR:RdI w w.heap.size .u64 A L) (hl:L.length≤140737488351232) (hc:chk p L.length 1024=0) (h2:p2 L.length=true):CalP p g L inv 63 #[v, .slice A L.length c, .bool inv] w:=
 zCU (f:=zGD p L) (by unfold zGD zI4;rw [if_neg (by simp [zEp hc]),if_neg (by simp [h2])]) (fun hf=>zFT hp hg g0 g1 h A c L inv hU hR hf) (fun hf=>zSW (zFS h A c L inv hl hU hR hf))
theorem zCZ {p:Nat} [NeZero p] {w:World} {v:Value} {g:Int} (hp:Prime p) (hg:Ord (zt p g) (p-1)) (g0:0≤g) (g1:g<p) (h:Fd w w.heap.size v p g) (A:Option Addr) (c:Nat) (L:List Int) (inv:Bool) (hU:U64s L) (hR:RdI w w.heap.size .u64 A L) (hl:L.length≤140737488351232) (hc:chk p L.length 1024=0) (h2:p2 L.length=true):CalP p g L inv 64 #[v, .slice A L.length c, .bool inv] w:=
 zCU (f:=zGD p L) (by unfold zGD zI4;rw [if_neg (by simp [zEp hc]),if_neg (by simp [h2])]) (fun hf=>zQ6 hp hg g0 g1 h A c L inv hU hR hf) (fun hf=>zSW (zQ5 h A c L inv hl hU hR hf))
theorem zDa {p:Nat} [NeZero p] {w:World} {v:Value} {g:Int} (hp:Prime p) (hg:Ord (zt p g) (p-1)) (g0:0≤g) (g1:g<p) (h:Fd w w.heap.size v p g) (A:Option Addr) (c:Nat) (L:List Int) (inv:Bool) (hU:U64s L) (hR:RdI w w.heap.size .u64 A L) (hl:L.length≤140737488351232) (hc:chk p L.length 1024=0) (h2:zQD L.length=true):CalP p g L inv 65 #[v, .slice A L.length c, .bool inv] w:=
 zCU (f:=zGN p L) (by unfold zGN zI4;rw [if_neg (by simp [hc]),if_neg (by simp [h2])]) (fun hf=>zL9 hp hg g0 g1 h A c L inv hU hR hf) (fun hf=>(zL8 h A c L inv hl hU hR hf))
theorem zCW {p:Nat} [NeZero p] {w:World} {v:Value} {g:Int} (hp:Prime p) (hg:Ord (zt p g) (p-1)) (g0:0≤g) (g1:g<p) (h:Fd w w.heap.size v p g) (A:Option Addr) (c:Nat) (L:List Int) (inv:Bool) (hU:U64s L) (hR:RdI w w.heap.size .u64 A L) (a:Int) (a0: -9223372036854775808≤a) (a1:a≤9223372036854775807) (hl:L.length≤140737488351232) (hc:chk p L.length 1024=0) (h2:copB L.length a=true):CalP p g L inv 66 #[v, .slice A L.length c, .int .i64 a, .bool inv] w:=
 zCU (f:=zGL p L a) (by unfold zGL zI4;rw [if_neg (by simp [hc]),if_neg (by simp [h2])]) (fun hf=>zEI hp hg g0 g1 h A c L a inv hU hR hf) (fun hf=>(zEH h A c L a a0 a1 inv hl hU hR hf))
theorem zDb {p:Nat} [NeZero p] {w:World} {v:Value} {g:Int} (hp:Prime p) (hg:Ord (zt p g) (p-1)) (g0:0≤g) (g1:g<p) (h:Fd w w.heap.size v p g) (A:Option Addr) (c:Nat) (L:List Int) (inv:Bool) (hU:U64s L) (hR:RdI w w.heap.size .u64 A L) (hl:L.length≤140737488351232) (hc:chk p L.length 1024=0) (h2:fitR (rpad L.length) p=true):CalP p g L inv 67 #[v, .slice A L.length c, .bool inv] w:=
 zCU (f:=zGP (rpad L.length) p L) (by unfold zGP zI4;rw [if_neg (by simp [hc]),if_neg (by simp [h2])]) (fun hf=>zRn hp hg g0 g1 h A c L inv hU hR hf) (fun hf=>(zRm h A c L inv hl hU hR hf))
theorem zCV {p:Nat} [NeZero p] {w:World} {v:Value} {g:Int} (hp:Prime p) (hg:Ord (zt p g) (p-1)) (g0:0≤g) (g1:g<p) (h:Fd w w.heap.size v p g) (A:Option Addr) (c:Nat) (L:List Int) (inv:Bool) (hU:U64s L) (hR:RdI w w.heap.size .u64 A L) (hl:L.length≤140737488351232) (hc:chk p L.length 1024=0) (h2:fitR (cpad L.length) p=true):CalP p g L inv 68 #[v, .slice A L.length c, .bool inv] w:=
 zCU (f:=zGP (cpad L.length) p L) (by unfold zGP zI4;rw [if_neg (by simp [hc]),if_neg (by simp [h2])]) (fun hf=>zEy hp hg g0 g1 h A c L inv hU hR hf) (fun hf=>(zEx h A c L inv hl hU hR hf))
noncomputable def errP (p K N M:Int) (L:List Int):Int:=if (L.length:Int)≠N∨N<1 then 1 else if fitI p K N M≠0 then fitI p K N M else zI4 p L
theorem zHg {p K N M:Int} (h:fitI p K N M=0):chk p N 1024=0:=by
 unfold fitI at h
 split at h
 ·rename_i h1;exact absurd h h1
 ·rename_i h1;simpa using h1
theorem zHf {p K N M:Int} (h:fitI p K N M=0):canB K N M=true:=by
 unfold fitI at h
 split at h
 ·rename_i h1;exact absurd h h1
 ·split at h
  ·omega
  ·rename_i h2
   cases hc:canB K N M with
   | true=>rfl
   | false=>exact absurd (.inl hc) h2
theorem zHl {p K N M:Int} (h:fitI p K N M=0) (hK:5≤K):fitR M p=true:=by
 unfold fitI at h
 split at h
 ·rename_i h1;exact absurd h h1
 ·split at h
  ·omega
  ·rename_i h2
   cases hc:fitR M p with
   | true=>rfl
   | false=>exact absurd (.inr ⟨hK,hc⟩) h2
set_option maxHeartbeats 8000000 in
set_option maxRecDepth 100000 in
theorem zPr {p:Nat} [NeZero p] {w:World} {v:Value} {g:Int} (hp:Prime p) (hg:Ord (zt p g) (p-1)) (g0:0≤g) (g1:g<p) (h:Fd w w.heap.size v p g) (A:Option Addr) (c:Nat) (L:List Int) (inv:Bool) (hU:U64s L) (hR:RdI w w.heap.size .u64 A L) (K N M:Int) (k0: -9223372036854775808≤K) (k1:K≤9223372036854775807) (n0: -9223372036854775808≤N) (n1:N≤9223372036854775807) (a0: -9223372036854775808≤M) (a1:M≤9223372036854775807) (hl:L.length≤140737488351232):
  Calls Tryz.prog 27 #[v, .agg #[.int .i64 K, .int .i64 N, .int .i64 M], .slice A L.length c, .bool inv] w fun e w'=> ∃V,e= .returned (.tuple #[V, .int .i64 (errP p K N M L)])∧RunQ p g L inv (errP p K N M L) w.heap.size V w'∧Below w.heap.size w w':=by
 obtain ⟨fb,rfl⟩: ∃fb,v= .pointer (some ⟨fb,0,none⟩):=by
  obtain ⟨b,c,t,o,s,sv,hv,_⟩:=h
  exact ⟨b,hv⟩
 have HFd:=Lib.hid h
 have HR:=Lib.hid hR
 have R1:=Lib.hid (lay1 w 36 #[.int .i64 K, .int .i64 N, .int .i64 M])
 have HF:=Lib.hid (fun wz (hz:Below w.heap.size w wz)=>zOe ((h.below hz).mono hz.size) K N M k0 k1 n0 n1 a0 a1)
 by_cases hLN:(L.length:Int)≠N∨N<1
 ·have he:Hid (errP p K N M L=1):=Lib.hid (by unfold errP;rw [if_pos hLN])
  have hQ:Hid (∀wz,RunQ p g L inv 1 w.heap.size (.slice none 0 0) wz):=Lib.hid (fun wz=> .inr ⟨by decide,rfl⟩)
  rw [he.out]
  obtain ⟨ft,hft⟩: ∃ft,ft=fitI p K N M:=⟨_,rfl⟩
  rw [←hft] at HF
  by_cases h1:(L.length:Int)=N
  ·have t1:((L.length:Int) != N)=false:=by simpa using h1
   have t2:decide (N<1)=true:=decide_eq_true (by omega)
   clear h hR hft hLN h1 he
   go_enter Tryz.func27,Tryz.ntmps27
   go_wp2_with (refine wpList_load_row rfl _ _ rfl _ rfl _ _ _ _ (R1.out.1) Tryz.underlying36 rfl (by exact zT5) ?_)
   refine (HF.out _ R1.out.2).mono ?_
   rintro e w2 ⟨rfl,hB2⟩
   have d1:=(R1.out.1.keep hB2).cell (i:=1) (v:= .int .i64 N) rfl
   have HB:=Lib.hid (R1.out.2.trans (hB2.mono R1.out.2.size))
   clear hB2
   go_wp2
   go_ret2
   exact ⟨_,rfl,hQ.out _,HB.out⟩
  ·have t1:((L.length:Int) != N)=true:=by simpa using h1
   clear h hR hft hLN h1 he
   go_enter Tryz.func27,Tryz.ntmps27
   go_wp2_with (refine wpList_load_row rfl _ _ rfl _ rfl _ _ _ _ (R1.out.1) Tryz.underlying36 rfl (by exact zT5) ?_)
   refine (HF.out _ R1.out.2).mono ?_
   rintro e w2 ⟨rfl,hB2⟩
   have d1:=(R1.out.1.keep hB2).cell (i:=1) (v:= .int .i64 N) rfl
   have HB:=Lib.hid (R1.out.2.trans (hB2.mono R1.out.2.size))
   clear hB2
   go_wp2
   go_ret2
   exact ⟨_,rfl,hQ.out _,HB.out⟩
 ·obtain ⟨n,hn⟩: ∃n,n=L.length:=⟨_,rfl⟩
  obtain rfl:N=(n:Int):=by omega
  have t1:((n:Int) != (n:Int))=false:=by simp
  have t2:decide ((n:Int)<1)=false:=decide_eq_false (by omega)
  have t2b:decide (n<1)=false:=decide_eq_false (by omega)
  by_cases hft:fitI p K n M=0
  ·have he:errP p K n M L=zI4 p L:=by unfold errP;rw [if_neg hLN,if_neg (by simp [hft])]
   rw [hft] at HF
   rw [he]
   have hc:=zHg hft
   have hcan:=zHf hft
   have hKr:=zDd hcan
   have hc2:=hcan
   rw [zDg (zDe hcan)] at hc2
   have hcL:chk p L.length 1024=0:=by rw [←hn];exact hc
   have HC2:=Lib.hid hc2
   have HFt:=Lib.hid hft
   have HcL:=Lib.hid hcL
   rw [←hn]
   clear hc2 hft hcL hcan hc he hLN
   rcases (show K=0∨K=1∨K=2∨K=3∨K=4∨K=5∨K=6 by omega) with hK|hK|hK|hK|hK|hK|hK
   ·have t1:(K == 1)=false:=by simp;omega
    have t2:(K == 2)=false:=by simp;omega
    have t3:(K == 3)=false:=by simp;omega
    have t4:(K == 4)=false:=by simp;omega
    have t5:(K == 5)=false:=by simp;omega
    have t6:(K == 6)=false:=by simp;omega
    have HC:=Lib.hid (fun (wz:World) (hz:Below w.heap.size w wz)=>zCX hp hg g0 g1 ((HFd.out.below hz).mono hz.size) A c L inv hU ((HR.out.below hz).mono hz.size) hl HcL.out)
    unfold CalP at HC
    rw [←hn] at HC
    clear hK h hR hKr HC2 HFt HcL hn hl
    go_enter Tryz.func27,Tryz.ntmps27
    go_wp2_with (refine wpList_load_row rfl _ _ rfl _ rfl _ _ _ _ (R1.out.1) Tryz.underlying36 rfl (by exact zT5) ?_)
    refine (HF.out _ R1.out.2).mono ?_
    rintro e w2 ⟨rfl,hB2⟩
    have R2:=Lib.hid (And.intro (R1.out.1.keep hB2) (R1.out.2.trans (hB2.mono R1.out.2.size)))
    clear hB2
    have d0:=R2.out.1.cell (i:=0) (v:= .int .i64 K) rfl
    have d1:=R2.out.1.cell (i:=1) (v:= .int .i64 (n:Int)) rfl
    have d2:=R2.out.1.cell (i:=2) (v:= .int .i64 M) rfl
    go_wp2_with fail
    refine (HC.out w2 R2.out.2).mono ?_
    rintro e w3 ⟨V,rfl,hQ,hB3⟩
    have HQ:=Lib.hid (hQ.mono R2.out.2.size)
    have HB3:=Lib.hid (R2.out.2.trans (hB3.mono R2.out.2.size))
    clear hQ hB3 d0 d1 d2
    go_wp2
    go_ret2
    exact ⟨_,rfl,HQ.out,HB3.out⟩
   ·have hP:p2 L.length=true:=by
     rw [←hn];subst hK;have hc2:=HC2.out;simp at hc2;exact hc2.2
    have t1:(K == 1)=true:=by simp;omega
    have HC:=Lib.hid (fun (wz:World) (hz:Below w.heap.size w wz)=>zCY hp hg g0 g1 ((HFd.out.below hz).mono hz.size) A c L inv hU ((HR.out.below hz).mono hz.size) hl HcL.out hP)
    unfold CalP at HC
    rw [←hn] at HC
    clear hK h hR hKr HC2 HFt HcL hn hl hP
    go_enter Tryz.func27,Tryz.ntmps27
    go_wp2_with (refine wpList_load_row rfl _ _ rfl _ rfl _ _ _ _ (R1.out.1) Tryz.underlying36 rfl (by exact zT5) ?_)
    refine (HF.out _ R1.out.2).mono ?_
    rintro e w2 ⟨rfl,hB2⟩
    have R2:=Lib.hid (And.intro (R1.out.1.keep hB2) (R1.out.2.trans (hB2.mono R1.out.2.size)))
    clear hB2
    have d0:=R2.out.1.cell (i:=0) (v:= .int .i64 K) rfl
    have d1:=R2.out.1.cell (i:=1) (v:= .int .i64 (n:Int)) rfl
    have d2:=R2.out.1.cell (i:=2) (v:= .int .i64 M) rfl
    go_wp2_with fail
    refine (HC.out w2 R2.out.2).mono ?_
    rintro e w3 ⟨V,rfl,hQ,hB3⟩
    have HQ:=Lib.hid (hQ.mono R2.out.2.size)
    have HB3:=Lib.hid (R2.out.2.trans (hB3.mono R2.out.2.size))
    clear hQ hB3 d0 d1 d2
    go_wp2
    go_ret2
    exact ⟨_,rfl,HQ.out,HB3.out⟩
   ·have hP:p2 L.length=true:=by
     rw [←hn];subst hK;have hc2:=HC2.out;simp at hc2;exact hc2.2
    have t1:(K == 1)=false:=by simp;omega
    have t2:(K == 2)=true:=by simp;omega
    have HC:=Lib.hid (fun (wz:World) (hz:Below w.heap.size w wz)=>zCZ hp hg g0 g1 ((HFd.out.below hz).mono hz.size) A c L inv hU ((HR.out.below hz).mono hz.size) hl HcL.out hP)
    unfold CalP at HC
    rw [←hn] at HC
    clear hK h hR hKr HC2 HFt HcL hn hl hP
    go_enter Tryz.func27,Tryz.ntmps27
    go_wp2_with (refine wpList_load_row rfl _ _ rfl _ rfl _ _ _ _ (R1.out.1) Tryz.underlying36 rfl (by exact zT5) ?_)
    refine (HF.out _ R1.out.2).mono ?_
    rintro e w2 ⟨rfl,hB2⟩
    have R2:=Lib.hid (And.intro (R1.out.1.keep hB2) (R1.out.2.trans (hB2.mono R1.out.2.size)))
    clear hB2
    have d0:=R2.out.1.cell (i:=0) (v:= .int .i64 K) rfl
    have d1:=R2.out.1.cell (i:=1) (v:= .int .i64 (n:Int)) rfl
    have d2:=R2.out.1.cell (i:=2) (v:= .int .i64 M) rfl
    go_wp2_with fail
    refine (HC.out w2 R2.out.2).mono ?_
    rintro e w3 ⟨V,rfl,hQ,hB3⟩
    have HQ:=Lib.hid (hQ.mono R2.out.2.size)
    have HB3:=Lib.hid (R2.out.2.trans (hB3.mono R2.out.2.size))
    clear hQ hB3 d0 d1 d2
    go_wp2
    go_ret2
    exact ⟨_,rfl,HQ.out,HB3.out⟩
   ·have hP:zQD L.length=true:=by
     rw [←hn];subst hK;have hc2:=HC2.out;simp at hc2;exact hc2.2
    have t1:(K == 1)=false:=by simp;omega
    have t2:(K == 2)=false:=by simp;omega
    have t3:(K == 3)=true:=by simp;omega
    have HC:=Lib.hid (fun (wz:World) (hz:Below w.heap.size w wz)=>zDa hp hg g0 g1 ((HFd.out.below hz).mono hz.size) A c L inv hU ((HR.out.below hz).mono hz.size) hl HcL.out hP)
    unfold CalP at HC
    rw [←hn] at HC
    clear hK h hR hKr HC2 HFt HcL hn hl hP
    go_enter Tryz.func27,Tryz.ntmps27
    go_wp2_with (refine wpList_load_row rfl _ _ rfl _ rfl _ _ _ _ (R1.out.1) Tryz.underlying36 rfl (by exact zT5) ?_)
    refine (HF.out _ R1.out.2).mono ?_
    rintro e w2 ⟨rfl,hB2⟩
    have R2:=Lib.hid (And.intro (R1.out.1.keep hB2) (R1.out.2.trans (hB2.mono R1.out.2.size)))
    clear hB2
    have d0:=R2.out.1.cell (i:=0) (v:= .int .i64 K) rfl
    have d1:=R2.out.1.cell (i:=1) (v:= .int .i64 (n:Int)) rfl
    have d2:=R2.out.1.cell (i:=2) (v:= .int .i64 M) rfl
    go_wp2_with fail
    refine (HC.out w2 R2.out.2).mono ?_
    rintro e w3 ⟨V,rfl,hQ,hB3⟩
    have HQ:=Lib.hid (hQ.mono R2.out.2.size)
    have HB3:=Lib.hid (R2.out.2.trans (hB3.mono R2.out.2.size))
    clear hQ hB3 d0 d1 d2
    go_wp2
    go_ret2
    exact ⟨_,rfl,HQ.out,HB3.out⟩
   ·have hP:copB L.length M=true:=by
     rw [←hn];subst hK;have hc2:=HC2.out;simp at hc2;exact hc2
    have t1:(K == 1)=false:=by simp;omega
    have t2:(K == 2)=false:=by simp;omega
    have t3:(K == 3)=false:=by simp;omega
    have t4:(K == 4)=true:=by simp;omega
    have HC:=Lib.hid (fun (wz:World) (hz:Below w.heap.size w wz)=>zCW hp hg g0 g1 ((HFd.out.below hz).mono hz.size) A c L inv hU ((HR.out.below hz).mono hz.size) M a0 a1 hl HcL.out hP)
    unfold CalP at HC
    rw [←hn] at HC
    clear hK h hR hKr HC2 HFt HcL hn hl hP
    go_enter Tryz.func27,Tryz.ntmps27
    go_wp2_with (refine wpList_load_row rfl _ _ rfl _ rfl _ _ _ _ (R1.out.1) Tryz.underlying36 rfl (by exact zT5) ?_)
    refine (HF.out _ R1.out.2).mono ?_
    rintro e w2 ⟨rfl,hB2⟩
    have R2:=Lib.hid (And.intro (R1.out.1.keep hB2) (R1.out.2.trans (hB2.mono R1.out.2.size)))
    clear hB2
    have d0:=R2.out.1.cell (i:=0) (v:= .int .i64 K) rfl
    have d1:=R2.out.1.cell (i:=1) (v:= .int .i64 (n:Int)) rfl
    have d2:=R2.out.1.cell (i:=2) (v:= .int .i64 M) rfl
    go_wp2_with fail
    refine (HC.out w2 R2.out.2).mono ?_
    rintro e w3 ⟨V,rfl,hQ,hB3⟩
    have HQ:=Lib.hid (hQ.mono R2.out.2.size)
    have HB3:=Lib.hid (R2.out.2.trans (hB3.mono R2.out.2.size))
    clear hQ hB3 d0 d1 d2
    go_wp2
    go_ret2
    exact ⟨_,rfl,HQ.out,HB3.out⟩
   ·have hP:fitR (rpad L.length) p=true:=by
     have h5:=zHl HFt.out (by omega)
     rw [←hn];subst hK;have hc2:=HC2.out;simp at hc2;rw [←hc2.2];exact h5
    have t1:(K == 1)=false:=by simp;omega
    have t2:(K == 2)=false:=by simp;omega
    have t3:(K == 3)=false:=by simp;omega
    have t4:(K == 4)=false:=by simp;omega
    have t5:(K == 5)=true:=by simp;omega
    have HC:=Lib.hid (fun (wz:World) (hz:Below w.heap.size w wz)=>zDb hp hg g0 g1 ((HFd.out.below hz).mono hz.size) A c L inv hU ((HR.out.below hz).mono hz.size) hl HcL.out hP)
    unfold CalP at HC
    rw [←hn] at HC
    clear hK h hR hKr HC2 HFt HcL hn hl hP
    go_enter Tryz.func27,Tryz.ntmps27
    go_wp2_with (refine wpList_load_row rfl _ _ rfl _ rfl _ _ _ _ (R1.out.1) Tryz.underlying36 rfl (by exact zT5) ?_)
    refine (HF.out _ R1.out.2).mono ?_
    rintro e w2 ⟨rfl,hB2⟩
    have R2:=Lib.hid (And.intro (R1.out.1.keep hB2) (R1.out.2.trans (hB2.mono R1.out.2.size)))
    clear hB2
    have d0:=R2.out.1.cell (i:=0) (v:= .int .i64 K) rfl
    have d1:=R2.out.1.cell (i:=1) (v:= .int .i64 (n:Int)) rfl
    have d2:=R2.out.1.cell (i:=2) (v:= .int .i64 M) rfl
    go_wp2_with fail
    refine (HC.out w2 R2.out.2).mono ?_
    rintro e w3 ⟨V,rfl,hQ,hB3⟩
    have HQ:=Lib.hid (hQ.mono R2.out.2.size)
    have HB3:=Lib.hid (R2.out.2.trans (hB3.mono R2.out.2.size))
    clear hQ hB3 d0 d1 d2
    go_wp2
    go_ret2
    exact ⟨_,rfl,HQ.out,HB3.out⟩
   ·have hP:fitR (cpad L.length) p=true:=by
     have h5:=zHl HFt.out (by omega)
     rw [←hn];subst hK;have hc2:=HC2.out;simp at hc2;rw [←hc2];exact h5
    have t1:(K == 1)=false:=by simp;omega
    have t2:(K == 2)=false:=by simp;omega
    have t3:(K == 3)=false:=by simp;omega
    have t4:(K == 4)=false:=by simp;omega
    have t5:(K == 5)=false:=by simp;omega
    have t6:(K == 6)=true:=by simp;omega
    have HC:=Lib.hid (fun (wz:World) (hz:Below w.heap.size w wz)=>zCV hp hg g0 g1 ((HFd.out.below hz).mono hz.size) A c L inv hU ((HR.out.below hz).mono hz.size) hl HcL.out hP)
    unfold CalP at HC
    rw [←hn] at HC
    clear hK h hR hKr HC2 HFt HcL hn hl hP
    go_enter Tryz.func27,Tryz.ntmps27
    go_wp2_with (refine wpList_load_row rfl _ _ rfl _ rfl _ _ _ _ (R1.out.1) Tryz.underlying36 rfl (by exact zT5) ?_)
    refine (HF.out _ R1.out.2).mono ?_
    rintro e w2 ⟨rfl,hB2⟩
    have R2:=Lib.hid (And.intro (R1.out.1.keep hB2) (R1.out.2.trans (hB2.mono R1.out.2.size)))
    clear hB2
    have d0:=R2.out.1.cell (i:=0) (v:= .int .i64 K) rfl
    have d1:=R2.out.1.cell (i:=1) (v:= .int .i64 (n:Int)) rfl
    have d2:=R2.out.1.cell (i:=2) (v:= .int .i64 M) rfl
    go_wp2_with fail
    refine (HC.out w2 R2.out.2).mono ?_
    rintro e w3 ⟨V,rfl,hQ,hB3⟩
    have HQ:=Lib.hid (hQ.mono R2.out.2.size)
    have HB3:=Lib.hid (R2.out.2.trans (hB3.mono R2.out.2.size))
    clear hQ hB3 d0 d1 d2
    go_wp2
    go_ret2
    exact ⟨_,rfl,HQ.out,HB3.out⟩
  ·have he:errP p K n M L=fitI p K n M:=by unfold errP;rw [if_neg hLN,if_pos hft]
   rw [he]
   obtain ⟨ft,hfe⟩: ∃ft,ft=fitI p K n M:=⟨_,rfl⟩
   rw [←hfe] at HF hft ⊢
   have hQ:Hid (∀wz,RunQ p g L inv ft w.heap.size (.slice none 0 0) wz):=Lib.hid (fun wz=> .inr ⟨hft,rfl⟩)
   have t3:(ft != 0)=true:=by simpa using hft
   rw [←hn]
   clear h hR hft hfe he hLN hn hl
   go_enter Tryz.func27,Tryz.ntmps27
   go_wp2_with (refine wpList_load_row rfl _ _ rfl _ rfl _ _ _ _ (R1.out.1) Tryz.underlying36 rfl (by exact zT5) ?_)
   refine (HF.out _ R1.out.2).mono ?_
   rintro e w2 ⟨rfl,hB2⟩
   have d1:=(R1.out.1.keep hB2).cell (i:=1) (v:= .int .i64 (n:Int)) rfl
   have HB:=Lib.hid (R1.out.2.trans (hB2.mono R1.out.2.size))
   clear hB2
   go_wp2
   go_ret2
   exact ⟨_,rfl,hQ.out _,HB.out⟩
end Go.Proofs.YtmalmijdjhkklaaGreat