/- Small factors: mixed.Radices, and the document's. -/
import Derived.Test.YtmalmijdjhkklaaGreatW51
import Derived.Test.YtmalmijdjhkklaaGreatArr
import Derived.Laws.AppendOwn
import Derived.Maps.AppendAt
set_option linter.unusedVariables false
set_option linter.unusedSimpArgs false
set_option maxRecDepth 100000
set_option maxHeartbeats 16000000
namespace Go.Proofs.YtmalmijdjhkklaaGreat
open Go.RowKit
theorem zJn:(Tryz.prog.info? 3).map (fun i=>(i.zero,i.size,i.bytes))=some (some (.int .i64 0),1,8):=by kernel_rfl
def zDm (L:List Nat):List Int:=List.map (fun x:Nat=>(x:Int)) L
theorem zDo (L:List Nat):(zDm L).length=L.length:=by simp [zDm]
theorem zDp (L:List Nat) (r:Nat):ints .i64 (zDm (L ++ [r]))=ints .i64 (zDm L) ++ [Value.int .i64 (r:Int)]:=by simp [zDm,ints]
def RadR (n:Int) (w:World) (e:Ending) (w':World):Prop:=
 ((∃L V,zQD n=true∧rad n.toNat=some L∧L.length≤10∧e= .returned (.tuple #[V, .bool true])∧w'.ownsRow w.heap.size 3 1 V L.length (ints .i64 (zDm L)))∨
  (zQD n=false∧e= .returned (.tuple #[.slice none 0 0, .bool false])))∧Below w.heap.size w w'
theorem zQF {n:Int} (h:n<1∨1024<n):zQD n=false:=by
 unfold zQD;rw [decide_eq_false (by omega)];rfl
theorem zQE {n:Nat} (h:1≤n∧n≤1024):zQD (n:Int)=(rad n).isSome:=by
 unfold zQD;rw [decide_eq_true (by omega),Int.toNat_natCast];rfl
theorem zKo {m r:Nat} (h2:2≤r) (h8:r<8) (hd:m%r=0) (hn: ∀s,2≤s→s<r→m%s≠0):ldiv m=r:=by
 unfold ldiv
 have g2:=hn 2
 have g3:=hn 3
 have g5:=hn 5
 rcases (show r=2∨r=3∨r=4∨r=5∨r=6∨r=7 by omega) with rfl|rfl|rfl|rfl|rfl|rfl
 ·rw [if_pos hd]
 ·rw [if_neg (by omega),if_pos hd]
 ·exact absurd (show m%2=0 by omega) (by omega)
 ·rw [if_neg (by omega),if_neg (by omega),if_pos hd]
 ·exact absurd (show m%2=0 by omega) (by omega)
 ·rw [if_neg (by omega),if_neg (by omega),if_neg (by omega),if_pos hd]
theorem zKp {m:Nat} (hn: ∀s,2≤s→s<8→m%s≠0):ldiv m=8:=by
 unfold ldiv
 rw [if_neg (hn 2 (by omega) (by omega)),if_neg (hn 3 (by omega) (by omega)),if_neg (hn 5 (by omega) (by omega)),if_neg (hn 7 (by omega) (by omega))]
theorem zLV (n:Int) (n0: -9223372036854775808≤n) (n1:n≤9223372036854775807) (w:World):
  Calls Tryz.prog 104 #[.int .i64 n] w (RadR n w):=by
 obtain ⟨ii,hii,hy0,hy1,hy2⟩:=info_parts zJn
 by_cases h0:n<1
 ·have t0:decide (n<1)=true:=decide_eq_true h0
  have HR:=zy (zQF (.inl h0))
  go_enter Tryz.func104,Tryz.ntmps104
  go_wp2
  go_ret2
  exact ⟨.inr ⟨HR.out,rfl⟩,Below.refl _ _⟩
 have t0:decide (n<1)=false:=decide_eq_false h0
 by_cases h1:1024<n
 ·have t1:decide (n>1024)=true:=decide_eq_true h1
  have HR:=zy (zQF (.inr h1))
  go_enter Tryz.func104,Tryz.ntmps104
  go_wp2
  go_ret2
  exact ⟨.inr ⟨HR.out,rfl⟩,Below.refl _ _⟩
 have t1:decide (n>1024)=false:=decide_eq_false h1
 obtain ⟨k,rfl⟩:=Int.eq_ofNat_of_zero_le (show 0≤n by omega)
 have hk:1≤k∧k≤1024:=by omega
 have HOk:=zy (zQE hk)
 have HS:=zy (zQM hk.1)
 clear h0 h1 n0 n1
 go_enter Tryz.func104,Tryz.ntmps104
 go_wp2
 go_loopw [0,4,14] (fun X O I wr=> ∃(i m:Nat) (L:List Nat) (Ov:Value),X= .int .i64 m∧Ov=O∧I= .int .i64 i∧i≤4∧Hid (RadW k m L∧zA4 m i)∧wr.ownsRow w.heap.size 3 1 Ov L.length (ints .i64 (zDm L))∧Below w.heap.size w wr) (fun _ _ I _=>4-(intOf I).toNat)
 case atStart=>exact ⟨0,k,[],_,rfl,rfl,rfl,by omega,zy ⟨HS.out,fun j hj=>by omega⟩,World.ownsRow_nil _ _ _ _,Below.refl _ _⟩
 case round=>
  obtain ⟨i,m,L,O,rfl,rfl,rfl,hi,HW,hown,hB⟩:=hrel
  by_cases hlt:i<4
  ·have f0:(0:Int)≤(i:Int):=by omega
   have f1:(i:Int)<4:=by omega
   have hix: ∀W,(Instr.index 132 (.agg #[.int .i64 2, .int .i64 3, .int .i64 5, .int .i64 7]) (.int .i64 (i:Int))).run Tryz.prog W= .ok (.int .i64 ((prK i:Nat):Int)) W:=fun W=>zS6 _ _ _ _ _ _ _ Tryz.underlying132 rfl Tryz.underlying3 (by kernel_rfl) hlt (zON i hlt) W
   have hr:=zOO i
   have HL:Hid (∀m,zA4 m i→m%prK i=0→ldiv m=prK i):=zy (fun m h1 h2=>zKn hlt h1 h2)
   have HN:Hid (∀m,zA4 m i→m%prK i≠0→zA4 m (i+1)):=zy (fun m h1 h2=>zMw h1 h2)
   obtain ⟨r,hre⟩: ∃r,r=prK i:=⟨_,rfl⟩
   rw [←hre] at hix hr HL HN
   have tr0:((r:Int) == 0)=false:=by simp;omega
   obtain ⟨wo,hwo⟩: ∃wo:World,wo=wr:=⟨_,rfl⟩
   subst hwo
   have HO1:=zy hown
   have hB1:=zy hB
   clear hre hown hB
   go_wp2
   go_loopw [0,4] (fun X O wr=> ∃(m:Nat) (L:List Nat) (Ov:Value),X= .int .i64 m∧Ov=O∧Hid (RadW k m L∧zA4 m i)∧wr.ownsRow w.heap.size 3 1 Ov L.length (ints .i64 (zDm L))∧Below w.heap.size w wr) (fun X _ _=>(intOf X).toNat)
   case atStart=>exact ⟨m,L,_,rfl,rfl,HW,HO1.out,hB1.out⟩
   case round=>
    clear HW HO1
    obtain ⟨m,L,O,rfl,rfl,HW,hown,hB⟩:=hrel
    have hws:=hB.size
    have hm1:=HW.out.1.2.1
    have hm2:=zQJ HW.out.1
    have hL:=zQK HW.out.1 hk.2
    by_cases hd:m%r=0
    ·have z1:(m:Int)%(r:Int)=0:=by omega
     have z2:(m:Int).tmod (r:Int)=0:=by rw [Int.tmod_eq_emod_of_nonneg (by omega)];exact z1
     have hmr:1<m:=by
      rcases Nat.lt_or_ge 1 m with h|h
      ·exact h
      ·have:m=1:=by omega
       subst this
       rw [Nat.mod_eq_of_lt (by omega)] at hd
       omega
     have HW2:Hid (RadW k (m/r) (L ++ [r])∧zA4 (m/r) i):=zy ⟨zQN HW.out.1 (HL.out m HW.out.2 hd) (by omega) hmr hd,zMv HW.out.2 hd⟩
     have hql:m/r<m:=Nat.div_lt_self (by omega) (by omega)
     have q1:(m:Int)/(r:Int)=((m/r:Nat):Int):=by omega
     have q2:(m:Int).tdiv (r:Int)=((m/r:Nat):Int):=by rw [Int.tdiv_eq_ediv_of_nonneg (by omega)];exact q1
     obtain ⟨q,hq⟩: ∃q,q=m/r:=⟨_,rfl⟩
     rw [←hq] at HW2 hql q1 q2
     have HO2:=zy hown
     clear hq hd HW hown
     go_wp2_with (at_builtin;refine wpList_append_own _ rfl _ _ 78 rfl w.heap.size 3 ii (.int .i64 0) 1 8 Tryz.underlying78 hii hy0 hy1 hy2 rfl (by decide) _ _ _ rfl (World.ownsRow.alloc HO2.out _) ⟨wr.heap.size,0,none⟩ 1 1 [.int .i64 (r:Int)] rfl rfl ?c1 ?c2 ?c3 ?c4 ?c5 ?_)
     case c1=>
      intro j u hj
      match j,hj with
      | 0,hj=>simp at hj;subst hj;simp [Addr.add]
     case c2=>intro u hu;simp at hu;subst hu;rfl
     case c3=>unfold maxLen;omega
     case c4=>omega
     case c5=>simp;omega
     intro v' w6 hown' hgrow _
     have hO6:w6.ownsRow w.heap.size 3 1 v' (L ++ [r]).length (ints .i64 (zDm (L ++ [r]))):=by
      rw [zDp,List.length_append,List.length_singleton];exact hown'
     have hB6:=(hB.alloc hws (.cells #[.int .i64 (r:Int)] 3)).grown hgrow (by simp;omega) (fun k hk=>(World.ownsRow.lt HO2.out k hk).1)
     have HF:=zy hO6
     clear hown' hgrow hO6 HO2 z1 z2 hB
     go_wp2
     go_roundw
     case rel=>exact ⟨q,L ++ [r],_,rfl,rfl,HW2,HF.out,hB6⟩
     case measure=>simp [intOf];omega
    ·have z1:(m:Int)%(r:Int)=((m%r:Nat):Int):=by omega
     have z2:(m:Int).tmod (r:Int)=((m%r:Nat):Int):=by rw [Int.tmod_eq_emod_of_nonneg (by omega)];exact z1
     have HW2:Hid (RadW k m L∧zA4 m (i+1)):=zy ⟨HW.out.1,HN.out m HW.out.2 hd⟩
     obtain ⟨z,hz⟩: ∃z,z=m%r:=⟨_,rfl⟩
     rw [←hz] at z1 z2 hd
     have t5:((z:Int) == 0)=false:=by simp;omega
     have HF:=zy (And.intro hown hB)
     clear hz hd HW hown hB
     go_wp2
     go_roundw
     case rel=>exact ⟨i+1,m,L,_,rfl,rfl,by go_num,by omega,HW2,HF.out.1,HF.out.2⟩
     case measure=>simp [intOf];omega
  ·obtain rfl:i=4:=by omega
   have h8:=zKs HW.out.2
   by_cases h1:1<m
   ·have t3:decide (1<m)=true:=decide_eq_true h1
    have HF:Hid (zQD (k:Int)=false):=zy (by rw [HOk.out,zQL HW.out.1 h1 h8];rfl)
    clear h8
    go_wp2
    go_ret2
    exact ⟨.inr ⟨HF.out,rfl⟩,hB⟩
   ·have hm:m=1:=by have:=HW.out.1.2.1;omega
    subst hm
    have HF:Hid (rad k=some L):=zy (zQI HW.out.1)
    have hL:=zQK HW.out.1 hk.2
    have HG:=zy hown
    clear h8 HW hown
    go_wp2
    go_ret2
    exact ⟨.inl ⟨L,_,by rw [HOk.out,HF.out];rfl,by rw [Int.toNat_natCast];exact HF.out,hL,rfl,HG.out⟩,hB⟩
theorem zPE (n:Int) (n0: -9223372036854775808≤n) (n1:n≤9223372036854775807) (w:World):
  Calls Tryz.prog 59 #[.int .i64 n] w (RadR n w):=by
 obtain ⟨ii,hii,hy0,hy1,hy2⟩:=info_parts zJn
 by_cases h0:n<1
 ·have t0:decide (n<1)=true:=decide_eq_true h0
  have HR:=zy (zQF (.inl h0))
  go_enter Tryz.func59,Tryz.ntmps59
  go_wp2
  go_ret2
  exact ⟨.inr ⟨HR.out,rfl⟩,Below.refl _ _⟩
 have t0:decide (n<1)=false:=decide_eq_false h0
 by_cases h1:1024<n
 ·have t1:decide (n>1024)=true:=decide_eq_true h1
  have HR:=zy (zQF (.inr h1))
  go_enter Tryz.func59,Tryz.ntmps59
  go_wp2
  go_ret2
  exact ⟨.inr ⟨HR.out,rfl⟩,Below.refl _ _⟩
 have t1:decide (n>1024)=false:=decide_eq_false h1
 obtain ⟨k,rfl⟩:=Int.eq_ofNat_of_zero_le (show 0≤n by omega)
 have hk:1≤k∧k≤1024:=by omega
 have HOk:=zy (zQE hk)
 have HS:=zy (zQM hk.1)
 clear h0 h1 n0 n1
 go_enter Tryz.func59,Tryz.ntmps59
 go_wp2
 go_loopw [0,4] (fun X O wr=> ∃(m:Nat) (L:List Nat) (Ov:Value),X= .int .i64 m∧Ov=O∧Hid (RadW k m L)∧wr.ownsRow w.heap.size 3 1 Ov L.length (ints .i64 (zDm L))∧Below w.heap.size w wr) (fun X _ _=>(intOf X).toNat)
 case atStart=>exact ⟨k,[],_,rfl,rfl,HS,World.ownsRow_nil _ _ _ _,Below.refl _ _⟩
 case round=>
  obtain ⟨m,L,O,rfl,rfl,HW,hown,hB⟩:=hrel
  have hws:=hB.size
  have hm1:=HW.out.2.1
  have hm2:=zQJ HW.out
  have hL:=zQK HW.out hk.2
  by_cases h1:1<m
  ·have t3:decide (1<m)=true:=decide_eq_true h1
   obtain ⟨wo,hwo⟩: ∃wo:World,wo=wr:=⟨_,rfl⟩
   subst hwo
   have HO2:=zy hown
   have HB2:=zy hB
   clear hown hB
   go_wp2
   go_loop [5] (fun R=> ∃r:Nat,R= .int .i64 r∧2≤r∧r≤8∧Hid (∀s,2≤s→s<r→m%s≠0)) (fun R=>8-(intOf R).toNat)
   case atStart=>exact ⟨2,rfl,by omega,by omega,zy (fun s a b=>by omega)⟩
   case round=>
    obtain ⟨r,rfl,hr2,hr8,HN⟩:=hrel
    by_cases h8:r<8
    ·have t4:decide ((r:Int)<8)=true:=decide_eq_true (by omega)
     have tr0:((r:Int) == 0)=false:=by simp;omega
     by_cases hd:m%r=0
     ·have z1:(m:Int)%(r:Int)=0:=by omega
      have z2:(m:Int).tmod (r:Int)=0:=by rw [Int.tmod_eq_emod_of_nonneg (by omega)];exact z1
      have t5:((r:Int) == 8)=false:=by simp;omega
      have HW2:Hid (RadW k (m/r) (L ++ [r])):=zy (zQN HW.out (zKo hr2 h8 hd HN.out) (by omega) h1 hd)
      have hql:m/r<m:=Nat.div_lt_self (by omega) (by omega)
      have q1:(m:Int)/(r:Int)=((m/r:Nat):Int):=by omega
      have q2:(m:Int).tdiv (r:Int)=((m/r:Nat):Int):=by rw [Int.tdiv_eq_ediv_of_nonneg (by omega)];exact q1
      obtain ⟨q,hq⟩: ∃q,q=m/r:=⟨_,rfl⟩
      rw [←hq] at HW2 hql q1 q2
      clear hq hd HW HN
      go_wp2_with (at_builtin;refine wpList_append_own _ rfl _ _ 78 rfl w.heap.size 3 ii (.int .i64 0) 1 8 Tryz.underlying78 hii hy0 hy1 hy2 rfl (by decide) _ _ _ rfl (World.ownsRow.alloc HO2.out _) ⟨wo.heap.size,0,none⟩ 1 1 [.int .i64 (r:Int)] rfl rfl (cell_one_new _ _ _) (by intro u hu;simp at hu;subst hu;rfl) (by unfold maxLen;omega) (by omega) (by simp;omega) ?_)
      intro v' w6 hown' hgrow _
      have hO6:w6.ownsRow w.heap.size 3 1 v' (L ++ [r]).length (ints .i64 (zDm (L ++ [r]))):=by
       rw [zDp,List.length_append,List.length_singleton];exact hown'
      have hB6:=(HB2.out.alloc hws (.cells #[.int .i64 (r:Int)] 3)).grown hgrow (by simp;omega) (fun k hk=>(World.ownsRow.lt HO2.out k hk).1)
      have HF:=zy hO6
      clear hown' hgrow hO6 HO2 z1 z2 HB2
      go_wp2
      go_roundw
      case rel=>exact ⟨q,L ++ [r],_,rfl,rfl,HW2,HF.out,hB6⟩
      case measure=>simp [intOf];omega
     ·have z1:(m:Int)%(r:Int)=((m%r:Nat):Int):=by omega
      have z2:(m:Int).tmod (r:Int)=((m%r:Nat):Int):=by rw [Int.tmod_eq_emod_of_nonneg (by omega)];exact z1
      have HN2:Hid (∀s,2≤s→s<r+1→m%s≠0):=zy (fun s a b=>by
       rcases Nat.lt_or_ge s r with h|h
       ·exact HN.out s a h
       ·obtain rfl:s=r:=by omega
        exact hd)
      obtain ⟨z,hz⟩: ∃z,z=m%r:=⟨_,rfl⟩
      rw [←hz] at z1 z2 hd
      have t5:((z:Int) != 0)=true:=by simp;omega
      clear hz hd HN
      go_wp2
      go_round
      case rel=>exact ⟨r+1,by go_num,by omega,by omega,HN2⟩
      case measure=>simp [intOf];omega
    ·obtain rfl:r=8:=by omega
     have HF:Hid (zQD (k:Int)=false):=zy (by rw [HOk.out,zQL HW.out h1 (zKp HN.out)];rfl)
     clear HN
     go_wp2
     go_ret2
     exact ⟨.inr ⟨HF.out,rfl⟩,HB2.out⟩
  ·have t3:decide (1<m)=false:=decide_eq_false h1
   have hm:m=1:=by omega
   have HF:Hid (rad k=some L):=zy (zQI (hm ▸ HW.out))
   have HG:=zy hown
   clear HW hown hm
   go_wp2
   go_ret2
   exact ⟨.inl ⟨L,_,by rw [HOk.out,HF.out];rfl,by rw [Int.toNat_natCast];exact HF.out,hL,rfl,HG.out⟩,hB⟩
end Go.Proofs.YtmalmijdjhkklaaGreat