/- limbs: halves, signs. -/
import Derived.Test.YtmalmijdjhkklaaGreatW87
import Derived.Test.YtmalmijdjhkklaaGreatQTail
set_option linter.unusedVariables false
set_option linter.unusedSimpArgs false
namespace Go.Proofs.YtmalmijdjhkklaaGreat
open Go.RowKit
section
end

section
theorem two_le {i n:Nat} (h:i≤n):2^i≤2^n:=Nat.pow_le_pow_right (by omega) h
end

section
theorem zXh {P:Program} {ops:Array Oper} {S:World→Prop} {op:Oper} {a:Act} (hw:Region.wanted op (yielded ops a.tmps)=true) (ty:TypeId) (x:Operand) (ho:op.op= .load ty x)
  (G:Nat) (hx:a.eval x= .pointer (some ⟨G,0,none⟩)) (t:TypeId) (c:Array Value) (d:TypeDesc) (hS: ∀w,S w→zAI w G t c)
  (hu:P.underlying ty=some d) (hd:(match d with| .struct _| .array _ _=>true|_=>false)=true) (hi:(P.info? ty).map (·.size)=some c.size):YieldsIf P ops S op (.agg c) a:=
 .inl ⟨hw,fun w hw'=>by
  unfold execOp
  simp only [ho,hx,Instr.loadAt,Instr.sureAddr,Sem.run_bind,Sem.run_pure,Result.andThen_ok,run_loadVar_row w G t ty c (0,0) d (hS w hw') hu hd hi]⟩
end
end Go.Proofs.YtmalmijdjhkklaaGreat
