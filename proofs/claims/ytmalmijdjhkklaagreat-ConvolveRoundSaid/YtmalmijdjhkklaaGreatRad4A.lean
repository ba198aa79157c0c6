/- radix4: every, power. -/
import Derived.Test.YtmalmijdjhkklaaGreatW25
import Derived.Test.YtmalmijdjhkklaaGreatQTail
set_option linter.unusedVariables false
set_option linter.unusedSimpArgs false
set_option maxRecDepth 100000
set_option maxHeartbeats 16000000
namespace Go.Proofs.YtmalmijdjhkklaaGreat
open Go.RowKit
open Alg
def zHA (L:List Int) (q m:Nat):List Int:=full m fun j=>L.getD (q+4*j) 0
theorem zGz (A:Option Addr) (c q m:Nat) (L:List Int) (w:World) (hq:q<4) (hm:L.length=4*m) (hl:L.length≤4096) (hR:RdI w w.heap.size .u64 A L):
  Calls Tryz.prog 171 #[.slice A L.length c, .int .i64 q] w fun r w'=> ∃V,r= .returned V∧OwnU w' w.heap.size V m (zHA L q m)∧Below w.heap.size w w':=by
 obtain ⟨i0,hi,hz0,hz1,hz2⟩:=info_parts zJt
 have hRl:(zHA L q m).length=m:=zHS _ _
 have HK:Hid (∀k,k<m→(zHA L q m).getD k 0=L.getD (q+4*k) 0):=zy (fun k hk=>zHR hk)
 obtain ⟨R,hRe⟩: ∃R,R=zHA L q m:=⟨_,rfl⟩
 rw [←hRe] at hRl HK ⊢
 have HM:=zy hm
 clear hRe hm
 have hlm:L.length=4*m:=HM.out
 have hm1:4*m≤4096:=by omega
 clear hlm
 go_enter Tryz.func171,Tryz.ntmps171
 go_wp2
 go_loopw [5,6] (fun O I wr=> ∃(k i:Nat) (Ov:Value),Ov=O∧I= .int .i64 i∧Hid (i=q+4*k)∧k≤m∧OwnU wr w.heap.size Ov k (R.take k)∧Below w.heap.size w wr) (fun _ I _=>8192-(intOf I).toNat)
 case atStart=>exact ⟨0,q,_,rfl,rfl,zy (by omega),by omega,World.ownsRow_nil _ _ _ _,Below.refl _ _⟩
 case round=>
  obtain ⟨k,i,O,rfl,rfl,hik,hk,hown,hB⟩:=hrel
  have hws:=hB.size
  by_cases hlt:i<L.length
  ·have hkm:k<m:=by have:=hik.out;have:=HM.out;omega
   have hx:R.getD k 0=L.getD i 0:=by rw [hik.out];exact HK.out k hkm
   obtain ⟨b,o,rfl,hb,hc⟩:=hR (by omega)
   have d:=zDs hB hb (hc i hlt)
   obtain ⟨x,hxe⟩: ∃x,x=L.getD i 0:=⟨_,rfl⟩
   rw [←hxe] at d hx
   have HX:=zy hx
   clear hx hxe hc hR
   go_wp2_with (at_builtin;refine wpList_append_own _ rfl _ _ 54 rfl w.heap.size 22 i0 (.int .u64 0) 1 8 Tryz.underlying54 hi hz0 hz1 hz2 rfl (by decide) _ _ _ rfl (World.ownsRow.alloc hown _) ⟨wr.heap.size,0,none⟩ 1 1 [.int .u64 x] rfl rfl ?c1 ?c2 ?c3 ?c4 ?c5 ?_)
   case c1=>
    intro j u hj
    match j,hj with
    | 0,hj=>simp at hj;subst hj;simp [Addr.add]
   case c2=>intro u hu;simp at hu;subst hu;rfl
   case c3=>unfold maxLen;omega
   case c4=>omega
   case c5=>simp;omega
   intro v' w6 hown' hgrow _
   have hO:OwnU w6 w.heap.size v' (k+1) (R.take (k+1)):=by
    unfold OwnU
    rw [zJA _ _ (by omega),HX.out]
    exact hown'
   have hB':=(hB.alloc hws (.cells #[.int .u64 x] 22)).grown hgrow (by simp;omega) (fun k hk=>(World.ownsRow.lt hown k hk).1)
   have HO:=zy hO
   have hle:i+4≤8191:=by omega
   clear hgrow hown hB hown' hO
   go_wp2
   go_roundw
   case rel=>exact ⟨k+1,i+4,_,rfl,by go_num,zy (by have:=hik.out;omega),by omega,HO.out,hB'⟩
   case measure=>simp [intOf];omega
  ·have hkm:k=m:=by have:=hik.out;have:=HM.out;omega
   subst hkm
   have he:R.take k=R:=List.take_of_length_le (by omega)
   rw [he] at hown
   have HO:=zy hown
   clear he hown
   go_wp2
   go_ret
   exact ⟨_,rfl,HO.out,hB⟩
theorem zOK (A:Option Addr) (c:Nat) (fv:Value) (T:List Int) (k:Nat) (w:World) (ht:0<T.length) (hl:T.length≤4096) (hk:k≤1073741824) (hR:RdI w w.heap.size .u64 A T):
  Calls Tryz.prog 204 #[.agg #[fv, .slice A T.length c], .int .i64 k] w fun r w'=>r= .returned (.int .u64 (T.getD (k%T.length) 0))∧Below w.heap.size w w':=by
 obtain ⟨b,o,rfl,hb,hc⟩:=hR ht
 have hm:k%T.length<T.length:=Nat.mod_lt _ ht
 have d:=hc _ hm
 have ek:(k:Int)%(T.length:Int)=((k%T.length:Nat):Int):=by rw [Int.natCast_emod]
 have tz:((T.length:Int) == 0)=false:=beq_eq_false_iff_ne.2 (by omega)
 obtain ⟨j,hj⟩: ∃j,j=k%T.length:=⟨_,rfl⟩
 rw [←hj] at d hm ek ⊢
 obtain ⟨x,hx⟩: ∃x,x=T.getD j 0:=⟨_,rfl⟩
 rw [←hx] at d ⊢
 have hB:=(Below.refl w.heap.size w).alloc (Nat.le_refl _) (.cells #[fv, .slice (some ⟨b,o,none⟩) T.length c] 163)
 clear hj hx hc hR
 go_enter Tryz.func204,Tryz.ntmps204
 go_wp2
 go_quiet (fail)
 go_wp2
 go_ret
 exact ⟨rfl,below_drewN hB _⟩
end Go.Proofs.YtmalmijdjhkklaaGreat