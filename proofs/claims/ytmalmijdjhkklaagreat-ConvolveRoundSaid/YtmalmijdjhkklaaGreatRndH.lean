/- A region that draws its order, inside a round: by the plain laws. -/
import Derived.Test.YtmalmijdjhkklaaGreatRngF
import Derived.OrdersIn
import Derived.OrdersHeld
import Derived.Deep.RegionHeld
set_option linter.unusedVariables false
set_option linter.unusedSimpArgs false
namespace Go.Proofs.YtmalmijdjhkklaaGreat
open Go.RowKit
theorem zNt {P:Program} {l n:Nat} {o:Oper} {a:Act} {w:World} {K K':Act→World→Prop} {Q:Exit→Act→World→Prop} (hnd: ∀c,o.op≠ .defer c) (hK: ∀a w,K a w→K' a w)
  (h:o.wp P a w K Q):o.wpIn (Fence.wide.inRound l) n P a w K' Q:=by
 refine ⟨fun _ _=>trivial,?_⟩
 unfold Oper.wp at h
 rw [show (Fence.wide.inRound l).round=some l from rfl,Oper.semAt_some l _ o hnd]
 generalize (execOp a.eval o).run P w=r at *
 cases r with
 | ok x w'=>
  cases x with
  | value v=>exact hK _ _ h
  | skip=>exact hK _ _ h
  | defer d=>exact hK _ _ h
  | enter f args=>
   refine ⟨fun h=>(by simp [Fence.wide] at h),(CallsIn.inRound l (callsIn_wide.2 h)).mono ?_⟩
   intro e w'' he
   cases e with
   | returned v=>exact hK _ _ he
   | panicked ch=>exact he
   | outgrown=>exact he
  | row row args=>
   exact ⟨fun h=>(by simp [Fence.wide] at h),fun c cs _=>let ⟨v,w2,r,s⟩:=h c cs;⟨v,w2,hK _ _ r,stepsIn_wide.2 s⟩⟩
  | _=>exact h.elim
 | halt x w'=>
  cases x with
  | panic v=>exact h
  | _=>exact h.elim
theorem zBA {P:Program} {l n:Nat} {md:Region.Mode} {ops:Array Oper} {Q:Exit→Act→World→Prop} (hnd: ∀(i:Nat) (o:Oper),ops[i]? =some o→ ∀c,o.op≠ .defer c) (hQ: ¬LetsOut Q):
  ∀(fuel:Nat) (listed:Array Bool) (a:Act) (w:World),wpAny P md ops Q fuel listed a w→wpAnyIn (Fence.wide.inRound l) n P md ops Q fuel listed a w
 | 0,_,_,_,h=>h
 | fuel+1,listed,a,w,h=>⟨h.1,fun i hi=>by
  have h1:=h.2 i hi
  unfold wpOp at h1
  unfold wpOpIn
  split
  ·rename_i ho
   rw [ho] at h1
   exact zBA hnd hQ fuel _ _ _ h1
  ·rename_i o ho
   rw [ho] at h1
   dsimp only at h1
   split
   ·rename_i hw
    rw [if_pos hw] at h1
    rcases h1 with h1|⟨_,h1⟩
    ·exact zNt (hnd i o ho) (fun a w h=>zBA hnd hQ fuel _ a w h) h1
    ·exact absurd h1 hQ
   ·rename_i hw
    rw [if_neg hw] at h1
    exact ⟨fun _ _=>trivial,zBA hnd hQ fuel _ _ _ h1⟩⟩
def zMt (ops:Array Oper):Bool:=ops.all fun o=>match o.op with| .defer _=>false|_=>true
theorem zMu {ops:Array Oper} (h:zMt ops=true) (i:Nat) (o:Oper) (ho:ops[i]? =some o) (c:Call):o.op≠ .defer c:=fun e=>by
 obtain ⟨hi,rfl⟩:=Array.getElem?_eq_some_iff.1 ho
 have h1:=Array.all_eq_true.1 h i hi
 rw [e] at h1
 cases h1
theorem zRz {P:Program} {l n id:Nat} {ops:Array Oper} {Q:Exit→Act→World→Prop} {S:World→Prop} {a:Act} {w:World} (hm:P.follows .mixedOrders=true) (hnd:zMt ops=true) (hQ: ¬LetsOut Q) (hS:S w.drew)
  (h:S w.drew→wpAnyH P .any ops Q S ops.size (Array.replicate ops.size false) a w.drew):(Code.region id ops true).wpIn (Fence.wide.inRound l) n P Q a w:=
 wpIn_region_any hm (zBA (zMu hnd) hQ _ _ _ _ (wpAny_of_held _ _ _ _ (h hS)))
end Go.Proofs.YtmalmijdjhkklaaGreat