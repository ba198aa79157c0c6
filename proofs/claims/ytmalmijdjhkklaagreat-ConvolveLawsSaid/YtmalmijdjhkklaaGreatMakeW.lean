/- make of a length, as an operation. -/
import Derived.Test.YtmalmijdjhkklaaGreatWClaimToFit16
set_option linter.unusedVariables false
set_option linter.unusedSimpArgs false
set_option linter.unusedSectionVars false
namespace Go.Proofs.YtmalmijdjhkklaaGreat
open Go.RowKit
theorem zWL {P:Program} {w:World} {o:Oper} {a:Act} {K:Act→World→Prop} {Q:Exit→Act→World→Prop} (l c:Operand) (t:TypeId) (hop:o.op=Op.makeSlice t l c)
  (base:Nat) (e:TypeId) (i:TypeInfo) (z:Value) (size:Nat) (h1:P.underlying t=some (.slice e)) (h2:P.info? e=some i) (h3:i.zero=some z) (h4:i.size=size)
  (kl kc:IntKind) (L C:Int) (n:Nat) (hl:a.eval l= .int kl L) (hc:a.eval c= .int kc C) (hL:L=(n:Int)) (hC:C=(n:Int)) (b2:i.bytes*n≤281474976710656) (b3:n≤maxLen) (b4:base≤w.heap.size)
  (hK: ∀w',w'.ownsRow base e size (.slice (some ⟨w.heap.size,0,none⟩) n n) n (madeCells z.cells (n*size)).toList→w.grownBy w' none→K (a.put o.dst (.slice (some ⟨w.heap.size,0,none⟩) n n)) w'):
  o.wp P a w K Q:=by
 obtain ⟨w',hrun,r1,r2⟩:=run_make_full (P:=P) w base t e i z size h1 h2 h3 h4 kl kc n b2 b3 b4
 subst hL
 subst hC
 unfold Oper.wp
 simp [execOp,hop,hl,hc,hrun,Result.andThen]
 exact hK w' r1 r2
end Go.Proofs.YtmalmijdjhkklaaGreat