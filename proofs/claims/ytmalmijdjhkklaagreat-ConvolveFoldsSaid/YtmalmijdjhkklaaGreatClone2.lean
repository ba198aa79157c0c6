/- append([]uint64{}, list...): one rule. -/
import Derived.Laws.AppendOwn
import Derived.Laws.AppendOwnNone
import Derived.Test.YtmalmijdjhkklaaGreatWRef06ToMs21
import Derived.Test.YtmalmijdjhkklaaGreatWKnownToRaM
set_option linter.unusedVariables false
set_option linter.unusedSimpArgs false
set_option linter.unusedSectionVars false
namespace Go.Proofs.YtmalmijdjhkklaaGreat
open Go.RowKit
theorem zWK {ops:Array Oper} {rest:List Oper} {o:Oper} {a:Act} {Q:Exit→Act→World→Prop} {w:World} (hgd:o.guard=none) (s x:Operand)
  (ho:o.op= .call { callee:= .builtin .append,args:= #[s,x],argTypes:= #[54,54] })
  (B:Nat) (hB:B≤w.heap.size) (v:Value) (hs:a.eval s=v) (hown:w.ownsRow B 22 1 v 0 []) (A:Option Addr) (c:Nat) (L:List Int) (hx:a.eval x= .slice A L.length c) (hL:LstA w A c L) (hl:L.length≤4294967296)
  (h: ∀v' w',OwnU w' B v' L.length L→Below B w w'→wpList Tryz.prog ops Q rest (a.put o.dst v') w'):wpList Tryz.prog ops Q (o :: rest) a w:=by
 obtain ⟨i0,hi,hz0,hz1,hz2⟩:=info_parts zJt
 obtain ⟨hLl,hLU,hLR,hAL⟩:=hL
 rcases A with _|ad
 ·have hf:L= []:=by
   rcases Nat.eq_zero_or_pos L.length with h|h
   ·exact List.eq_nil_of_length_eq_zero h
   ·obtain ⟨b,o,h,_⟩:=hLR h
    cases h
  have hc0:=hAL rfl
  subst hf
  subst hc0
  exact wpList_append_own_none hgd s x _ ho B 22 i0 1 Tryz.underlying54 hi v 0 [] hs hown hx (h v w hown (Below.refl _ _))
 ·have hcells: ∀j u,(ints .u64 L)[j]? =some u→w.cell? (ad.add j)=some u:=by
   intro j u hu
   have hj:j<L.length:=by
    rcases Nat.lt_or_ge j L.length with h|h
    ·exact h
    ·rw [List.getElem?_eq_none (by rw [zJ3];exact h)] at hu;cases hu
   obtain ⟨b,o,h,_,hc⟩:=hLR (by omega)
   have h':ad=⟨b,o,none⟩:=Option.some.inj h
   rw [h']
   exact zRt hc j u hu
  refine wpList_append_own _ hgd s x _ ho B 22 i0 (.int .u64 0) 1 8 Tryz.underlying54 hi hz0 hz1 hz2 rfl (by decide) v 0 [] hs hown ad L.length c (ints .u64 L) hx (by rw [zJ3];omega) hcells (fun u hu=>by
   obtain ⟨x,_,rfl⟩:=List.mem_map.1 hu
   rfl) (by unfold maxLen;omega) (by omega) hB fun v' w' h1 h2 _=>h v' w' (by unfold OwnU;simpa using h1) ((Below.refl _ _).grown h2 hB (fun k hk=>(World.ownsRow.lt hown k hk).1))
end Go.Proofs.YtmalmijdjhkklaaGreat