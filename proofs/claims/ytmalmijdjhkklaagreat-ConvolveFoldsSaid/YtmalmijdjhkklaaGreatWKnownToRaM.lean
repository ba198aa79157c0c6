/- field.known. -/
import Derived.Test.YtmalmijdjhkklaaGreatWClaimToFit16
import Derived.Test.YtmalmijdjhkklaaGreatWMontToModB
import Derived.Test.YtmalmijdjhkklaaGreatWBitsRef02BRev
import Derived.Test.YtmalmijdjhkklaaGreatWAlgToRad4M
set_option linter.unusedVariables false
set_option linter.unusedSimpArgs false
set_option linter.unusedSectionVars false
namespace Go.Proofs.YtmalmijdjhkklaaGreat
section
/- field.known. -/
open Go.RowKit
def zAz (es:List Ent) (p:Int) (w:World) (r:Ending) (w':World):Prop:=
 ∃A c,r= .returned (.tuple #[.slice A es.length c, .int .u64 p])∧es.length≤c∧Below w.heap.size w w'∧RdE w' w'.heap.size A es
set_option maxHeartbeats 4000000 in
set_option maxRecDepth 100000 in
theorem zJU (w:World):
  Calls Tryz.prog 98 #[.int .i64 0] w (zAz (zKa 0) k0.p w):=by
 go_enter Tryz.func98,Tryz.ntmps98
 go_wp2
 go_quiet (fail)
 go_wp2
 go_ret2
 refine ⟨some ⟨w.heap.size+1+1+1+1+1+1+1+1,0,none⟩,4,rfl,by decide,?_,?_⟩
 ·refine below_drewN ?_ _
  repeat (first|exact Below.refl _ _|refine Below.alloc ?_ (by first|omega|(simp only [World.size_alloc];omega)) _)
 ·intro _
  refine ⟨_,_,rfl,by simp,fun j hj=>?_⟩
  rcases (show j=0∨j=1∨j=2∨j=3 by have:j<4:=hj;omega) with rfl|rfl|rfl|rfl
  ·refine ⟨some ⟨w.heap.size,0,none⟩,1,?_,?_,?_,?_⟩
   ·rw [World.cell?_drewN];repeat (first|exact World.cell?_alloc_at _ _ _ _ (by first|rfl|(simp only [World.size_alloc];done)|(simp only [World.size_alloc];omega))|rw [World.cell?_alloc_past _ _ _ (by first|omega|(simp only [World.size_alloc];omega))])
   ·rw [World.cell?_drewN];repeat (first|exact World.cell?_alloc_at _ _ _ _ (by first|rfl|(simp only [World.size_alloc];done)|(simp only [World.size_alloc];omega))|rw [World.cell?_alloc_past _ _ _ (by first|omega|(simp only [World.size_alloc];omega))])
   ·rw [World.cell?_drewN];repeat (first|exact World.cell?_alloc_at _ _ _ _ (by first|rfl|(simp only [World.size_alloc];done)|(simp only [World.size_alloc];omega))|rw [World.cell?_alloc_past _ _ _ (by first|omega|(simp only [World.size_alloc];omega))])
   ·intro _
    refine ⟨_,_,rfl,by simp <;> omega,fun j hj=>?_⟩
    rcases (show j=0 by have:j<1:=hj;omega) with rfl
    constructor
    ·rw [World.cell?_drewN];repeat (first|exact World.cell?_alloc_at _ _ _ _ (by first|rfl|(simp only [World.size_alloc];done)|(simp only [World.size_alloc];omega))|rw [World.cell?_alloc_past _ _ _ (by first|omega|(simp only [World.size_alloc];omega))])
    ·rw [World.cell?_drewN];repeat (first|exact World.cell?_alloc_at _ _ _ _ (by first|rfl|(simp only [World.size_alloc];done)|(simp only [World.size_alloc];omega))|rw [World.cell?_alloc_past _ _ _ (by first|omega|(simp only [World.size_alloc];omega))])
  ·refine ⟨some ⟨w.heap.size+1+1+1+1,0,none⟩,2,?_,?_,?_,?_⟩
   ·rw [World.cell?_drewN];repeat (first|exact World.cell?_alloc_at _ _ _ _ (by first|rfl|(simp only [World.size_alloc];done)|(simp only [World.size_alloc];omega))|rw [World.cell?_alloc_past _ _ _ (by first|omega|(simp only [World.size_alloc];omega))])
   ·rw [World.cell?_drewN];repeat (first|exact World.cell?_alloc_at _ _ _ _ (by first|rfl|(simp only [World.size_alloc];done)|(simp only [World.size_alloc];omega))|rw [World.cell?_alloc_past _ _ _ (by first|omega|(simp only [World.size_alloc];omega))])
   ·rw [World.cell?_drewN];repeat (first|exact World.cell?_alloc_at _ _ _ _ (by first|rfl|(simp only [World.size_alloc];done)|(simp only [World.size_alloc];omega))|rw [World.cell?_alloc_past _ _ _ (by first|omega|(simp only [World.size_alloc];omega))])
   ·intro _
    refine ⟨_,_,rfl,by simp <;> omega,fun j hj=>?_⟩
    rcases (show j=0∨j=1 by have:j<2:=hj;omega) with rfl|rfl
    ·constructor
     ·rw [World.cell?_drewN];repeat (first|exact World.cell?_alloc_at _ _ _ _ (by first|rfl|(simp only [World.size_alloc];done)|(simp only [World.size_alloc];omega))|rw [World.cell?_alloc_past _ _ _ (by first|omega|(simp only [World.size_alloc];omega))])
     ·rw [World.cell?_drewN];repeat (first|exact World.cell?_alloc_at _ _ _ _ (by first|rfl|(simp only [World.size_alloc];done)|(simp only [World.size_alloc];omega))|rw [World.cell?_alloc_past _ _ _ (by first|omega|(simp only [World.size_alloc];omega))])
    ·constructor
     ·rw [World.cell?_drewN];repeat (first|exact World.cell?_alloc_at _ _ _ _ (by first|rfl|(simp only [World.size_alloc];done)|(simp only [World.size_alloc];omega))|rw [World.cell?_alloc_past _ _ _ (by first|omega|(simp only [World.size_alloc];omega))])
     ·rw [World.cell?_drewN];repeat (first|exact World.cell?_alloc_at _ _ _ _ (by first|rfl|(simp only [World.size_alloc];done)|(simp only [World.size_alloc];omega))|rw [World.cell?_alloc_past _ _ _ (by first|omega|(simp only [World.size_alloc];omega))])
  ·refine ⟨some ⟨w.heap.size+1+1+1+1+1+1,0,none⟩,2,?_,?_,?_,?_⟩
   ·rw [World.cell?_drewN];repeat (first|exact World.cell?_alloc_at _ _ _ _ (by first|rfl|(simp only [World.size_alloc];done)|(simp only [World.size_alloc];omega))|rw [World.cell?_alloc_past _ _ _ (by first|omega|(simp only [World.size_alloc];omega))])
   ·rw [World.cell?_drewN];repeat (first|exact World.cell?_alloc_at _ _ _ _ (by first|rfl|(simp only [World.size_alloc];done)|(simp only [World.size_alloc];omega))|rw [World.cell?_alloc_past _ _ _ (by first|omega|(simp only [World.size_alloc];omega))])
   ·rw [World.cell?_drewN];repeat (first|exact World.cell?_alloc_at _ _ _ _ (by first|rfl|(simp only [World.size_alloc];done)|(simp only [World.size_alloc];omega))|rw [World.cell?_alloc_past _ _ _ (by first|omega|(simp only [World.size_alloc];omega))])
   ·intro _
    refine ⟨_,_,rfl,by simp <;> omega,fun j hj=>?_⟩
    rcases (show j=0∨j=1 by have:j<2:=hj;omega) with rfl|rfl
    ·constructor
     ·rw [World.cell?_drewN];repeat (first|exact World.cell?_alloc_at _ _ _ _ (by first|rfl|(simp only [World.size_alloc];done)|(simp only [World.size_alloc];omega))|rw [World.cell?_alloc_past _ _ _ (by first|omega|(simp only [World.size_alloc];omega))])
     ·rw [World.cell?_drewN];repeat (first|exact World.cell?_alloc_at _ _ _ _ (by first|rfl|(simp only [World.size_alloc];done)|(simp only [World.size_alloc];omega))|rw [World.cell?_alloc_past _ _ _ (by first|omega|(simp only [World.size_alloc];omega))])
    ·constructor
     ·rw [World.cell?_drewN];repeat (first|exact World.cell?_alloc_at _ _ _ _ (by first|rfl|(simp only [World.size_alloc];done)|(simp only [World.size_alloc];omega))|rw [World.cell?_alloc_past _ _ _ (by first|omega|(simp only [World.size_alloc];omega))])
     ·rw [World.cell?_drewN];repeat (first|exact World.cell?_alloc_at _ _ _ _ (by first|rfl|(simp only [World.size_alloc];done)|(simp only [World.size_alloc];omega))|rw [World.cell?_alloc_past _ _ _ (by first|omega|(simp only [World.size_alloc];omega))])
  ·refine ⟨some ⟨w.heap.size+1+1+1+1+1+1+1,0,none⟩,2,?_,?_,?_,?_⟩
   ·rw [World.cell?_drewN];repeat (first|exact World.cell?_alloc_at _ _ _ _ (by first|rfl|(simp only [World.size_alloc];done)|(simp only [World.size_alloc];omega))|rw [World.cell?_alloc_past _ _ _ (by first|omega|(simp only [World.size_alloc];omega))])
   ·rw [World.cell?_drewN];repeat (first|exact World.cell?_alloc_at _ _ _ _ (by first|rfl|(simp only [World.size_alloc];done)|(simp only [World.size_alloc];omega))|rw [World.cell?_alloc_past _ _ _ (by first|omega|(simp only [World.size_alloc];omega))])
   ·rw [World.cell?_drewN];repeat (first|exact World.cell?_alloc_at _ _ _ _ (by first|rfl|(simp only [World.size_alloc];done)|(simp only [World.size_alloc];omega))|rw [World.cell?_alloc_past _ _ _ (by first|omega|(simp only [World.size_alloc];omega))])
   ·intro _
    refine ⟨_,_,rfl,by simp <;> omega,fun j hj=>?_⟩
    rcases (show j=0∨j=1 by have:j<2:=hj;omega) with rfl|rfl
    ·constructor
     ·rw [World.cell?_drewN];repeat (first|exact World.cell?_alloc_at _ _ _ _ (by first|rfl|(simp only [World.size_alloc];done)|(simp only [World.size_alloc];omega))|rw [World.cell?_alloc_past _ _ _ (by first|omega|(simp only [World.size_alloc];omega))])
     ·rw [World.cell?_drewN];repeat (first|exact World.cell?_alloc_at _ _ _ _ (by first|rfl|(simp only [World.size_alloc];done)|(simp only [World.size_alloc];omega))|rw [World.cell?_alloc_past _ _ _ (by first|omega|(simp only [World.size_alloc];omega))])
    ·constructor
     ·rw [World.cell?_drewN];repeat (first|exact World.cell?_alloc_at _ _ _ _ (by first|rfl|(simp only [World.size_alloc];done)|(simp only [World.size_alloc];omega))|rw [World.cell?_alloc_past _ _ _ (by first|omega|(simp only [World.size_alloc];omega))])
     ·rw [World.cell?_drewN];repeat (first|exact World.cell?_alloc_at _ _ _ _ (by first|rfl|(simp only [World.size_alloc];done)|(simp only [World.size_alloc];omega))|rw [World.cell?_alloc_past _ _ _ (by first|omega|(simp only [World.size_alloc];omega))])
set_option maxHeartbeats 4000000 in
set_option maxRecDepth 100000 in
theorem zJV (w:World):
  Calls Tryz.prog 98 #[.int .i64 1] w (zAz (zKa 1) k1.p w):=by
 go_enter Tryz.func98,Tryz.ntmps98
 go_wp2
 go_quiet (fail)
 go_wp2
 go_ret2
 refine ⟨some ⟨w.heap.size+1+1+1+1+1+1+1,0,none⟩,2,rfl,by decide,?_,?_⟩
 ·refine below_drewN ?_ _
  repeat (first|exact Below.refl _ _|refine Below.alloc ?_ (by first|omega|(simp only [World.size_alloc];omega)) _)
 ·intro _
  refine ⟨_,_,rfl,by simp,fun j hj=>?_⟩
  rcases (show j=0∨j=1 by have:j<2:=hj;omega) with rfl|rfl
  ·refine ⟨some ⟨w.heap.size,0,none⟩,1,?_,?_,?_,?_⟩
   ·rw [World.cell?_drewN];repeat (first|exact World.cell?_alloc_at _ _ _ _ (by first|rfl|(simp only [World.size_alloc];done)|(simp only [World.size_alloc];omega))|rw [World.cell?_alloc_past _ _ _ (by first|omega|(simp only [World.size_alloc];omega))])
   ·rw [World.cell?_drewN];repeat (first|exact World.cell?_alloc_at _ _ _ _ (by first|rfl|(simp only [World.size_alloc];done)|(simp only [World.size_alloc];omega))|rw [World.cell?_alloc_past _ _ _ (by first|omega|(simp only [World.size_alloc];omega))])
   ·rw [World.cell?_drewN];repeat (first|exact World.cell?_alloc_at _ _ _ _ (by first|rfl|(simp only [World.size_alloc];done)|(simp only [World.size_alloc];omega))|rw [World.cell?_alloc_past _ _ _ (by first|omega|(simp only [World.size_alloc];omega))])
   ·intro _
    refine ⟨_,_,rfl,by simp <;> omega,fun j hj=>?_⟩
    rcases (show j=0 by have:j<1:=hj;omega) with rfl
    constructor
    ·rw [World.cell?_drewN];repeat (first|exact World.cell?_alloc_at _ _ _ _ (by first|rfl|(simp only [World.size_alloc];done)|(simp only [World.size_alloc];omega))|rw [World.cell?_alloc_past _ _ _ (by first|omega|(simp only [World.size_alloc];omega))])
    ·rw [World.cell?_drewN];repeat (first|exact World.cell?_alloc_at _ _ _ _ (by first|rfl|(simp only [World.size_alloc];done)|(simp only [World.size_alloc];omega))|rw [World.cell?_alloc_past _ _ _ (by first|omega|(simp only [World.size_alloc];omega))])
  ·refine ⟨some ⟨w.heap.size+1+1+1+1+1+1,0,none⟩,2,?_,?_,?_,?_⟩
   ·rw [World.cell?_drewN];repeat (first|exact World.cell?_alloc_at _ _ _ _ (by first|rfl|(simp only [World.size_alloc];done)|(simp only [World.size_alloc];omega))|rw [World.cell?_alloc_past _ _ _ (by first|omega|(simp only [World.size_alloc];omega))])
   ·rw [World.cell?_drewN];repeat (first|exact World.cell?_alloc_at _ _ _ _ (by first|rfl|(simp only [World.size_alloc];done)|(simp only [World.size_alloc];omega))|rw [World.cell?_alloc_past _ _ _ (by first|omega|(simp only [World.size_alloc];omega))])
   ·rw [World.cell?_drewN];repeat (first|exact World.cell?_alloc_at _ _ _ _ (by first|rfl|(simp only [World.size_alloc];done)|(simp only [World.size_alloc];omega))|rw [World.cell?_alloc_past _ _ _ (by first|omega|(simp only [World.size_alloc];omega))])
   ·intro _
    refine ⟨_,_,rfl,by simp <;> omega,fun j hj=>?_⟩
    rcases (show j=0∨j=1 by have:j<2:=hj;omega) with rfl|rfl
    ·constructor
     ·rw [World.cell?_drewN];repeat (first|exact World.cell?_alloc_at _ _ _ _ (by first|rfl|(simp only [World.size_alloc];done)|(simp only [World.size_alloc];omega))|rw [World.cell?_alloc_past _ _ _ (by first|omega|(simp only [World.size_alloc];omega))])
     ·rw [World.cell?_drewN];repeat (first|exact World.cell?_alloc_at _ _ _ _ (by first|rfl|(simp only [World.size_alloc];done)|(simp only [World.size_alloc];omega))|rw [World.cell?_alloc_past _ _ _ (by first|omega|(simp only [World.size_alloc];omega))])
    ·constructor
     ·rw [World.cell?_drewN];repeat (first|exact World.cell?_alloc_at _ _ _ _ (by first|rfl|(simp only [World.size_alloc];done)|(simp only [World.size_alloc];omega))|rw [World.cell?_alloc_past _ _ _ (by first|omega|(simp only [World.size_alloc];omega))])
     ·rw [World.cell?_drewN];repeat (first|exact World.cell?_alloc_at _ _ _ _ (by first|rfl|(simp only [World.size_alloc];done)|(simp only [World.size_alloc];omega))|rw [World.cell?_alloc_past _ _ _ (by first|omega|(simp only [World.size_alloc];omega))])
set_option maxHeartbeats 4000000 in
set_option maxRecDepth 100000 in
theorem zJW (w:World):
  Calls Tryz.prog 98 #[.int .i64 2] w (zAz (zKa 2) k2.p w):=by
 go_enter Tryz.func98,Tryz.ntmps98
 go_wp2
 go_quiet (fail)
 go_wp2
 go_ret2
 refine ⟨some ⟨w.heap.size+1+1+1+1+1+1+1,0,none⟩,2,rfl,by decide,?_,?_⟩
 ·refine below_drewN ?_ _
  repeat (first|exact Below.refl _ _|refine Below.alloc ?_ (by first|omega|(simp only [World.size_alloc];omega)) _)
 ·intro _
  refine ⟨_,_,rfl,by simp,fun j hj=>?_⟩
  rcases (show j=0∨j=1 by have:j<2:=hj;omega) with rfl|rfl
  ·refine ⟨some ⟨w.heap.size+1+1,0,none⟩,1,?_,?_,?_,?_⟩
   ·rw [World.cell?_drewN];repeat (first|exact World.cell?_alloc_at _ _ _ _ (by first|rfl|(simp only [World.size_alloc];done)|(simp only [World.size_alloc];omega))|rw [World.cell?_alloc_past _ _ _ (by first|omega|(simp only [World.size_alloc];omega))])
   ·rw [World.cell?_drewN];repeat (first|exact World.cell?_alloc_at _ _ _ _ (by first|rfl|(simp only [World.size_alloc];done)|(simp only [World.size_alloc];omega))|rw [World.cell?_alloc_past _ _ _ (by first|omega|(simp only [World.size_alloc];omega))])
   ·rw [World.cell?_drewN];repeat (first|exact World.cell?_alloc_at _ _ _ _ (by first|rfl|(simp only [World.size_alloc];done)|(simp only [World.size_alloc];omega))|rw [World.cell?_alloc_past _ _ _ (by first|omega|(simp only [World.size_alloc];omega))])
   ·intro _
    refine ⟨_,_,rfl,by simp <;> omega,fun j hj=>?_⟩
    rcases (show j=0 by have:j<1:=hj;omega) with rfl
    constructor
    ·rw [World.cell?_drewN];repeat (first|exact World.cell?_alloc_at _ _ _ _ (by first|rfl|(simp only [World.size_alloc];done)|(simp only [World.size_alloc];omega))|rw [World.cell?_alloc_past _ _ _ (by first|omega|(simp only [World.size_alloc];omega))])
    ·rw [World.cell?_drewN];repeat (first|exact World.cell?_alloc_at _ _ _ _ (by first|rfl|(simp only [World.size_alloc];done)|(simp only [World.size_alloc];omega))|rw [World.cell?_alloc_past _ _ _ (by first|omega|(simp only [World.size_alloc];omega))])
  ·refine ⟨some ⟨w.heap.size+1+1+1+1+1+1,0,none⟩,2,?_,?_,?_,?_⟩
   ·rw [World.cell?_drewN];repeat (first|exact World.cell?_alloc_at _ _ _ _ (by first|rfl|(simp only [World.size_alloc];done)|(simp only [World.size_alloc];omega))|rw [World.cell?_alloc_past _ _ _ (by first|omega|(simp only [World.size_alloc];omega))])
   ·rw [World.cell?_drewN];repeat (first|exact World.cell?_alloc_at _ _ _ _ (by first|rfl|(simp only [World.size_alloc];done)|(simp only [World.size_alloc];omega))|rw [World.cell?_alloc_past _ _ _ (by first|omega|(simp only [World.size_alloc];omega))])
   ·rw [World.cell?_drewN];repeat (first|exact World.cell?_alloc_at _ _ _ _ (by first|rfl|(simp only [World.size_alloc];done)|(simp only [World.size_alloc];omega))|rw [World.cell?_alloc_past _ _ _ (by first|omega|(simp only [World.size_alloc];omega))])
   ·intro _
    refine ⟨_,_,rfl,by simp <;> omega,fun j hj=>?_⟩
    rcases (show j=0∨j=1 by have:j<2:=hj;omega) with rfl|rfl
    ·constructor
     ·rw [World.cell?_drewN];repeat (first|exact World.cell?_alloc_at _ _ _ _ (by first|rfl|(simp only [World.size_alloc];done)|(simp only [World.size_alloc];omega))|rw [World.cell?_alloc_past _ _ _ (by first|omega|(simp only [World.size_alloc];omega))])
     ·rw [World.cell?_drewN];repeat (first|exact World.cell?_alloc_at _ _ _ _ (by first|rfl|(simp only [World.size_alloc];done)|(simp only [World.size_alloc];omega))|rw [World.cell?_alloc_past _ _ _ (by first|omega|(simp only [World.size_alloc];omega))])
    ·constructor
     ·rw [World.cell?_drewN];repeat (first|exact World.cell?_alloc_at _ _ _ _ (by first|rfl|(simp only [World.size_alloc];done)|(simp only [World.size_alloc];omega))|rw [World.cell?_alloc_past _ _ _ (by first|omega|(simp only [World.size_alloc];omega))])
     ·rw [World.cell?_drewN];repeat (first|exact World.cell?_alloc_at _ _ _ _ (by first|rfl|(simp only [World.size_alloc];done)|(simp only [World.size_alloc];omega))|rw [World.cell?_alloc_past _ _ _ (by first|omega|(simp only [World.size_alloc];omega))])
set_option maxHeartbeats 4000000 in
set_option maxRecDepth 100000 in
theorem zJX (w:World):
  Calls Tryz.prog 98 #[.int .i64 3] w (zAz (zKa 3) k3.p w):=by
 go_enter Tryz.func98,Tryz.ntmps98
 go_wp2
 go_quiet (fail)
 go_wp2
 go_ret2
 refine ⟨some ⟨w.heap.size+1+1+1+1+1+1+1,0,none⟩,3,rfl,by decide,?_,?_⟩
 ·refine below_drewN ?_ _
  repeat (first|exact Below.refl _ _|refine Below.alloc ?_ (by first|omega|(simp only [World.size_alloc];omega)) _)
 ·intro _
  refine ⟨_,_,rfl,by simp,fun j hj=>?_⟩
  rcases (show j=0∨j=1∨j=2 by have:j<3:=hj;omega) with rfl|rfl|rfl
  ·refine ⟨some ⟨w.heap.size,0,none⟩,1,?_,?_,?_,?_⟩
   ·rw [World.cell?_drewN];repeat (first|exact World.cell?_alloc_at _ _ _ _ (by first|rfl|(simp only [World.size_alloc];done)|(simp only [World.size_alloc];omega))|rw [World.cell?_alloc_past _ _ _ (by first|omega|(simp only [World.size_alloc];omega))])
   ·rw [World.cell?_drewN];repeat (first|exact World.cell?_alloc_at _ _ _ _ (by first|rfl|(simp only [World.size_alloc];done)|(simp only [World.size_alloc];omega))|rw [World.cell?_alloc_past _ _ _ (by first|omega|(simp only [World.size_alloc];omega))])
   ·rw [World.cell?_drewN];repeat (first|exact World.cell?_alloc_at _ _ _ _ (by first|rfl|(simp only [World.size_alloc];done)|(simp only [World.size_alloc];omega))|rw [World.cell?_alloc_past _ _ _ (by first|omega|(simp only [World.size_alloc];omega))])
   ·intro _
    refine ⟨_,_,rfl,by simp <;> omega,fun j hj=>?_⟩
    rcases (show j=0 by have:j<1:=hj;omega) with rfl
    constructor
    ·rw [World.cell?_drewN];repeat (first|exact World.cell?_alloc_at _ _ _ _ (by first|rfl|(simp only [World.size_alloc];done)|(simp only [World.size_alloc];omega))|rw [World.cell?_alloc_past _ _ _ (by first|omega|(simp only [World.size_alloc];omega))])
    ·rw [World.cell?_drewN];repeat (first|exact World.cell?_alloc_at _ _ _ _ (by first|rfl|(simp only [World.size_alloc];done)|(simp only [World.size_alloc];omega))|rw [World.cell?_alloc_past _ _ _ (by first|omega|(simp only [World.size_alloc];omega))])
  ·refine ⟨some ⟨w.heap.size+1+1,0,none⟩,1,?_,?_,?_,?_⟩
   ·rw [World.cell?_drewN];repeat (first|exact World.cell?_alloc_at _ _ _ _ (by first|rfl|(simp only [World.size_alloc];done)|(simp only [World.size_alloc];omega))|rw [World.cell?_alloc_past _ _ _ (by first|omega|(simp only [World.size_alloc];omega))])
   ·rw [World.cell?_drewN];repeat (first|exact World.cell?_alloc_at _ _ _ _ (by first|rfl|(simp only [World.size_alloc];done)|(simp only [World.size_alloc];omega))|rw [World.cell?_alloc_past _ _ _ (by first|omega|(simp only [World.size_alloc];omega))])
   ·rw [World.cell?_drewN];repeat (first|exact World.cell?_alloc_at _ _ _ _ (by first|rfl|(simp only [World.size_alloc];done)|(simp only [World.size_alloc];omega))|rw [World.cell?_alloc_past _ _ _ (by first|omega|(simp only [World.size_alloc];omega))])
   ·intro _
    refine ⟨_,_,rfl,by simp <;> omega,fun j hj=>?_⟩
    rcases (show j=0 by have:j<1:=hj;omega) with rfl
    constructor
    ·rw [World.cell?_drewN];repeat (first|exact World.cell?_alloc_at _ _ _ _ (by first|rfl|(simp only [World.size_alloc];done)|(simp only [World.size_alloc];omega))|rw [World.cell?_alloc_past _ _ _ (by first|omega|(simp only [World.size_alloc];omega))])
    ·rw [World.cell?_drewN];repeat (first|exact World.cell?_alloc_at _ _ _ _ (by first|rfl|(simp only [World.size_alloc];done)|(simp only [World.size_alloc];omega))|rw [World.cell?_alloc_past _ _ _ (by first|omega|(simp only [World.size_alloc];omega))])
  ·refine ⟨some ⟨w.heap.size+1+1+1+1+1+1,0,none⟩,3,?_,?_,?_,?_⟩
   ·rw [World.cell?_drewN];repeat (first|exact World.cell?_alloc_at _ _ _ _ (by first|rfl|(simp only [World.size_alloc];done)|(simp only [World.size_alloc];omega))|rw [World.cell?_alloc_past _ _ _ (by first|omega|(simp only [World.size_alloc];omega))])
   ·rw [World.cell?_drewN];repeat (first|exact World.cell?_alloc_at _ _ _ _ (by first|rfl|(simp only [World.size_alloc];done)|(simp only [World.size_alloc];omega))|rw [World.cell?_alloc_past _ _ _ (by first|omega|(simp only [World.size_alloc];omega))])
   ·rw [World.cell?_drewN];repeat (first|exact World.cell?_alloc_at _ _ _ _ (by first|rfl|(simp only [World.size_alloc];done)|(simp only [World.size_alloc];omega))|rw [World.cell?_alloc_past _ _ _ (by first|omega|(simp only [World.size_alloc];omega))])
   ·intro _
    refine ⟨_,_,rfl,by simp <;> omega,fun j hj=>?_⟩
    rcases (show j=0∨j=1∨j=2 by have:j<3:=hj;omega) with rfl|rfl|rfl
    ·constructor
     ·rw [World.cell?_drewN];repeat (first|exact World.cell?_alloc_at _ _ _ _ (by first|rfl|(simp only [World.size_alloc];done)|(simp only [World.size_alloc];omega))|rw [World.cell?_alloc_past _ _ _ (by first|omega|(simp only [World.size_alloc];omega))])
     ·rw [World.cell?_drewN];repeat (first|exact World.cell?_alloc_at _ _ _ _ (by first|rfl|(simp only [World.size_alloc];done)|(simp only [World.size_alloc];omega))|rw [World.cell?_alloc_past _ _ _ (by first|omega|(simp only [World.size_alloc];omega))])
    ·constructor
     ·rw [World.cell?_drewN];repeat (first|exact World.cell?_alloc_at _ _ _ _ (by first|rfl|(simp only [World.size_alloc];done)|(simp only [World.size_alloc];omega))|rw [World.cell?_alloc_past _ _ _ (by first|omega|(simp only [World.size_alloc];omega))])
     ·rw [World.cell?_drewN];repeat (first|exact World.cell?_alloc_at _ _ _ _ (by first|rfl|(simp only [World.size_alloc];done)|(simp only [World.size_alloc];omega))|rw [World.cell?_alloc_past _ _ _ (by first|omega|(simp only [World.size_alloc];omega))])
    ·constructor
     ·rw [World.cell?_drewN];repeat (first|exact World.cell?_alloc_at _ _ _ _ (by first|rfl|(simp only [World.size_alloc];done)|(simp only [World.size_alloc];omega))|rw [World.cell?_alloc_past _ _ _ (by first|omega|(simp only [World.size_alloc];omega))])
     ·rw [World.cell?_drewN];repeat (first|exact World.cell?_alloc_at _ _ _ _ (by first|rfl|(simp only [World.size_alloc];done)|(simp only [World.size_alloc];omega))|rw [World.cell?_alloc_past _ _ _ (by first|omega|(simp only [World.size_alloc];omega))])
set_option maxHeartbeats 4000000 in
set_option maxRecDepth 100000 in
theorem zJY (w:World):
  Calls Tryz.prog 98 #[.int .i64 4] w (zAz (zKa 4) k4.p w):=by
 go_enter Tryz.func98,Tryz.ntmps98
 go_wp2
 go_quiet (fail)
 go_wp2
 go_ret2
 refine ⟨some ⟨w.heap.size+1+1+1+1+1+1+1,0,none⟩,3,rfl,by decide,?_,?_⟩
 ·refine below_drewN ?_ _
  repeat (first|exact Below.refl _ _|refine Below.alloc ?_ (by first|omega|(simp only [World.size_alloc];omega)) _)
 ·intro _
  refine ⟨_,_,rfl,by simp,fun j hj=>?_⟩
  rcases (show j=0∨j=1∨j=2 by have:j<3:=hj;omega) with rfl|rfl|rfl
  ·refine ⟨some ⟨w.heap.size,0,none⟩,1,?_,?_,?_,?_⟩
   ·rw [World.cell?_drewN];repeat (first|exact World.cell?_alloc_at _ _ _ _ (by first|rfl|(simp only [World.size_alloc];done)|(simp only [World.size_alloc];omega))|rw [World.cell?_alloc_past _ _ _ (by first|omega|(simp only [World.size_alloc];omega))])
   ·rw [World.cell?_drewN];repeat (first|exact World.cell?_alloc_at _ _ _ _ (by first|rfl|(simp only [World.size_alloc];done)|(simp only [World.size_alloc];omega))|rw [World.cell?_alloc_past _ _ _ (by first|omega|(simp only [World.size_alloc];omega))])
   ·rw [World.cell?_drewN];repeat (first|exact World.cell?_alloc_at _ _ _ _ (by first|rfl|(simp only [World.size_alloc];done)|(simp only [World.size_alloc];omega))|rw [World.cell?_alloc_past _ _ _ (by first|omega|(simp only [World.size_alloc];omega))])
   ·intro _
    refine ⟨_,_,rfl,by simp <;> omega,fun j hj=>?_⟩
    rcases (show j=0 by have:j<1:=hj;omega) with rfl
    constructor
    ·rw [World.cell?_drewN];repeat (first|exact World.cell?_alloc_at _ _ _ _ (by first|rfl|(simp only [World.size_alloc];done)|(simp only [World.size_alloc];omega))|rw [World.cell?_alloc_past _ _ _ (by first|omega|(simp only [World.size_alloc];omega))])
    ·rw [World.cell?_drewN];repeat (first|exact World.cell?_alloc_at _ _ _ _ (by first|rfl|(simp only [World.size_alloc];done)|(simp only [World.size_alloc];omega))|rw [World.cell?_alloc_past _ _ _ (by first|omega|(simp only [World.size_alloc];omega))])
  ·refine ⟨some ⟨w.heap.size+1+1+1+1,0,none⟩,2,?_,?_,?_,?_⟩
   ·rw [World.cell?_drewN];repeat (first|exact World.cell?_alloc_at _ _ _ _ (by first|rfl|(simp only [World.size_alloc];done)|(simp only [World.size_alloc];omega))|rw [World.cell?_alloc_past _ _ _ (by first|omega|(simp only [World.size_alloc];omega))])
   ·rw [World.cell?_drewN];repeat (first|exact World.cell?_alloc_at _ _ _ _ (by first|rfl|(simp only [World.size_alloc];done)|(simp only [World.size_alloc];omega))|rw [World.cell?_alloc_past _ _ _ (by first|omega|(simp only [World.size_alloc];omega))])
   ·rw [World.cell?_drewN];repeat (first|exact World.cell?_alloc_at _ _ _ _ (by first|rfl|(simp only [World.size_alloc];done)|(simp only [World.size_alloc];omega))|rw [World.cell?_alloc_past _ _ _ (by first|omega|(simp only [World.size_alloc];omega))])
   ·intro _
    refine ⟨_,_,rfl,by simp <;> omega,fun j hj=>?_⟩
    rcases (show j=0∨j=1 by have:j<2:=hj;omega) with rfl|rfl
    ·constructor
     ·rw [World.cell?_drewN];repeat (first|exact World.cell?_alloc_at _ _ _ _ (by first|rfl|(simp only [World.size_alloc];done)|(simp only [World.size_alloc];omega))|rw [World.cell?_alloc_past _ _ _ (by first|omega|(simp only [World.size_alloc];omega))])
     ·rw [World.cell?_drewN];repeat (first|exact World.cell?_alloc_at _ _ _ _ (by first|rfl|(simp only [World.size_alloc];done)|(simp only [World.size_alloc];omega))|rw [World.cell?_alloc_past _ _ _ (by first|omega|(simp only [World.size_alloc];omega))])
    ·constructor
     ·rw [World.cell?_drewN];repeat (first|exact World.cell?_alloc_at _ _ _ _ (by first|rfl|(simp only [World.size_alloc];done)|(simp only [World.size_alloc];omega))|rw [World.cell?_alloc_past _ _ _ (by first|omega|(simp only [World.size_alloc];omega))])
     ·rw [World.cell?_drewN];repeat (first|exact World.cell?_alloc_at _ _ _ _ (by first|rfl|(simp only [World.size_alloc];done)|(simp only [World.size_alloc];omega))|rw [World.cell?_alloc_past _ _ _ (by first|omega|(simp only [World.size_alloc];omega))])
  ·refine ⟨some ⟨w.heap.size+1+1+1+1+1+1,0,none⟩,2,?_,?_,?_,?_⟩
   ·rw [World.cell?_drewN];repeat (first|exact World.cell?_alloc_at _ _ _ _ (by first|rfl|(simp only [World.size_alloc];done)|(simp only [World.size_alloc];omega))|rw [World.cell?_alloc_past _ _ _ (by first|omega|(simp only [World.size_alloc];omega))])
   ·rw [World.cell?_drewN];repeat (first|exact World.cell?_alloc_at _ _ _ _ (by first|rfl|(simp only [World.size_alloc];done)|(simp only [World.size_alloc];omega))|rw [World.cell?_alloc_past _ _ _ (by first|omega|(simp only [World.size_alloc];omega))])
   ·rw [World.cell?_drewN];repeat (first|exact World.cell?_alloc_at _ _ _ _ (by first|rfl|(simp only [World.size_alloc];done)|(simp only [World.size_alloc];omega))|rw [World.cell?_alloc_past _ _ _ (by first|omega|(simp only [World.size_alloc];omega))])
   ·intro _
    refine ⟨_,_,rfl,by simp <;> omega,fun j hj=>?_⟩
    rcases (show j=0∨j=1 by have:j<2:=hj;omega) with rfl|rfl
    ·constructor
     ·rw [World.cell?_drewN];repeat (first|exact World.cell?_alloc_at _ _ _ _ (by first|rfl|(simp only [World.size_alloc];done)|(simp only [World.size_alloc];omega))|rw [World.cell?_alloc_past _ _ _ (by first|omega|(simp only [World.size_alloc];omega))])
     ·rw [World.cell?_drewN];repeat (first|exact World.cell?_alloc_at _ _ _ _ (by first|rfl|(simp only [World.size_alloc];done)|(simp only [World.size_alloc];omega))|rw [World.cell?_alloc_past _ _ _ (by first|omega|(simp only [World.size_alloc];omega))])
    ·constructor
     ·rw [World.cell?_drewN];repeat (first|exact World.cell?_alloc_at _ _ _ _ (by first|rfl|(simp only [World.size_alloc];done)|(simp only [World.size_alloc];omega))|rw [World.cell?_alloc_past _ _ _ (by first|omega|(simp only [World.size_alloc];omega))])
     ·rw [World.cell?_drewN];repeat (first|exact World.cell?_alloc_at _ _ _ _ (by first|rfl|(simp only [World.size_alloc];done)|(simp only [World.size_alloc];omega))|rw [World.cell?_alloc_past _ _ _ (by first|omega|(simp only [World.size_alloc];omega))])
set_option maxHeartbeats 4000000 in
set_option maxRecDepth 100000 in
theorem zJZ (w:World):
  Calls Tryz.prog 98 #[.int .i64 5] w (zAz (zKa 5) k5.p w):=by
 go_enter Tryz.func98,Tryz.ntmps98
 go_wp2
 go_quiet (fail)
 go_wp2
 go_ret2
 refine ⟨some ⟨w.heap.size+1+1+1+1+1+1+1,0,none⟩,2,rfl,by decide,?_,?_⟩
 ·refine below_drewN ?_ _
  repeat (first|exact Below.refl _ _|refine Below.alloc ?_ (by first|omega|(simp only [World.size_alloc];omega)) _)
 ·intro _
  refine ⟨_,_,rfl,by simp,fun j hj=>?_⟩
  rcases (show j=0∨j=1 by have:j<2:=hj;omega) with rfl|rfl
  ·refine ⟨some ⟨w.heap.size+1+1,0,none⟩,1,?_,?_,?_,?_⟩
   ·rw [World.cell?_drewN];repeat (first|exact World.cell?_alloc_at _ _ _ _ (by first|rfl|(simp only [World.size_alloc];done)|(simp only [World.size_alloc];omega))|rw [World.cell?_alloc_past _ _ _ (by first|omega|(simp only [World.size_alloc];omega))])
   ·rw [World.cell?_drewN];repeat (first|exact World.cell?_alloc_at _ _ _ _ (by first|rfl|(simp only [World.size_alloc];done)|(simp only [World.size_alloc];omega))|rw [World.cell?_alloc_past _ _ _ (by first|omega|(simp only [World.size_alloc];omega))])
   ·rw [World.cell?_drewN];repeat (first|exact World.cell?_alloc_at _ _ _ _ (by first|rfl|(simp only [World.size_alloc];done)|(simp only [World.size_alloc];omega))|rw [World.cell?_alloc_past _ _ _ (by first|omega|(simp only [World.size_alloc];omega))])
   ·intro _
    refine ⟨_,_,rfl,by simp <;> omega,fun j hj=>?_⟩
    rcases (show j=0 by have:j<1:=hj;omega) with rfl
    constructor
    ·rw [World.cell?_drewN];repeat (first|exact World.cell?_alloc_at _ _ _ _ (by first|rfl|(simp only [World.size_alloc];done)|(simp only [World.size_alloc];omega))|rw [World.cell?_alloc_past _ _ _ (by first|omega|(simp only [World.size_alloc];omega))])
    ·rw [World.cell?_drewN];repeat (first|exact World.cell?_alloc_at _ _ _ _ (by first|rfl|(simp only [World.size_alloc];done)|(simp only [World.size_alloc];omega))|rw [World.cell?_alloc_past _ _ _ (by first|omega|(simp only [World.size_alloc];omega))])
  ·refine ⟨some ⟨w.heap.size+1+1+1+1+1+1,0,none⟩,2,?_,?_,?_,?_⟩
   ·rw [World.cell?_drewN];repeat (first|exact World.cell?_alloc_at _ _ _ _ (by first|rfl|(simp only [World.size_alloc];done)|(simp only [World.size_alloc];omega))|rw [World.cell?_alloc_past _ _ _ (by first|omega|(simp only [World.size_alloc];omega))])
   ·rw [World.cell?_drewN];repeat (first|exact World.cell?_alloc_at _ _ _ _ (by first|rfl|(simp only [World.size_alloc];done)|(simp only [World.size_alloc];omega))|rw [World.cell?_alloc_past _ _ _ (by first|omega|(simp only [World.size_alloc];omega))])
   ·rw [World.cell?_drewN];repeat (first|exact World.cell?_alloc_at _ _ _ _ (by first|rfl|(simp only [World.size_alloc];done)|(simp only [World.size_alloc];omega))|rw [World.cell?_alloc_past _ _ _ (by first|omega|(simp only [World.size_alloc];omega))])
   ·intro _
    refine ⟨_,_,rfl,by simp <;> omega,fun j hj=>?_⟩
    rcases (show j=0∨j=1 by have:j<2:=hj;omega) with rfl|rfl
    ·constructor
     ·rw [World.cell?_drewN];repeat (first|exact World.cell?_alloc_at _ _ _ _ (by first|rfl|(simp only [World.size_alloc];done)|(simp only [World.size_alloc];omega))|rw [World.cell?_alloc_past _ _ _ (by first|omega|(simp only [World.size_alloc];omega))])
     ·rw [World.cell?_drewN];repeat (first|exact World.cell?_alloc_at _ _ _ _ (by first|rfl|(simp only [World.size_alloc];done)|(simp only [World.size_alloc];omega))|rw [World.cell?_alloc_past _ _ _ (by first|omega|(simp only [World.size_alloc];omega))])
    ·constructor
     ·rw [World.cell?_drewN];repeat (first|exact World.cell?_alloc_at _ _ _ _ (by first|rfl|(simp only [World.size_alloc];done)|(simp only [World.size_alloc];omega))|rw [World.cell?_alloc_past _ _ _ (by first|omega|(simp only [World.size_alloc];omega))])
     ·rw [World.cell?_drewN];repeat (first|exact World.cell?_alloc_at _ _ _ _ (by first|rfl|(simp only [World.size_alloc];done)|(simp only [World.size_alloc];omega))|rw [World.cell?_alloc_past _ _ _ (by first|omega|(simp only [World.size_alloc];omega))])
end

section
/- field.Known. -/
open Go.RowKit
theorem zKg (i:Int) (w:World) (h:i<0∨5<i):
    Calls Tryz.prog 98 #[.int .i64 i] w (zAz [] 0 w):=by
  have h0:(i == 0)=false:=by simp;omega
  have h1:(i == 1)=false:=by simp;omega
  have h2:(i == 2)=false:=by simp;omega
  have h3:(i == 3)=false:=by simp;omega
  have h4:(i == 4)=false:=by simp;omega
  have h5:(i == 5)=false:=by simp;omega
  clear h
  go_enter Tryz.func98,Tryz.ntmps98
  go_wp2
  go_ret2
  refine ⟨none,0,rfl,Nat.le_refl _,?_,fun h=>absurd h (by simp)⟩
  repeat (first|exact Below.refl _ _|refine Below.alloc ?_ (by first|omega|(simp only [World.size_alloc];omega)) _)
def zKb (i:Int):Int×Int:=if i=0 then (k0.p,3) else if i=1 then (k1.p,5) else if i=2 then (k2.p,6) else if i=3 then (k3.p,11) else if i=4 then (k4.p,3) else if i=5 then (k5.p,3) else (0,0)
theorem zKc {i:Int} (h:0≤i∧i≤5):i=0∨i=1∨i=2∨i=3∨i=4∨i=5:=by omega
theorem zKh {i:Int} (h:0≤i∧i≤5):(zKa i).length≤4∧zAb (zKa i)∧(∀e ∈ zKa i,zAm e)∧zAp (zKa i) (zKb i).1 (zKb i).2:=by
  have hE: ∀(es:List Ent),es.all (fun e=>decide (0≤e.p) && decide (e.p≤18446744073709551615) && decide (0≤e.g) && decide (e.g≤18446744073709551615) && decide (e.fs.length≤8796093022208) && e.fs.all (fun x=>decide (0≤x.1) && decide (x.1≤18446744073709551615) && decide (-9223372036854775808≤x.2) && decide (x.2≤9223372036854775807)))=true→ ∀e ∈ es,zAm e:=by
    intro es h e he
    simp only [List.all_eq_true,Bool.and_eq_true,decide_eq_true_eq] at h
    obtain ⟨⟨⟨⟨⟨a,b⟩,c⟩,d⟩,f⟩,g⟩:=h e he
    exact ⟨a,b,c,d,f,fun x hx=>by have:=g x hx;omega⟩
  rcases zKc h with rfl|rfl|rfl|rfl|rfl|rfl
  · exact ⟨by decide,zBw zRO,hE _ (by decide),3,by decide,by decide,by decide,by decide⟩
  · exact ⟨by decide,zBw zRP,hE _ (by decide),1,by decide,by decide,by decide,by decide⟩
  · exact ⟨by decide,zBw zRQ,hE _ (by decide),1,by decide,by decide,by decide,by decide⟩
  · exact ⟨by decide,zBw zRR,hE _ (by decide),2,by decide,by decide,by decide,by decide⟩
  · exact ⟨by decide,zBw zRS,hE _ (by decide),2,by decide,by decide,by decide,by decide⟩
  · exact ⟨by decide,zBw zRT,hE _ (by decide),1,by decide,by decide,by decide,by decide⟩
theorem zKe (i:Int) (w:World) (h:0≤i∧i≤5):
    Calls Tryz.prog 98 #[.int .i64 i] w (zAz (zKa i) (zKb i).1 w):=by
  rcases zKc h with rfl|rfl|rfl|rfl|rfl|rfl
  · exact zJU w
  · exact zJV w
  · exact zJW w
  · exact zJX w
  · exact zJY w
  · exact zJZ w
theorem zKd {i:Int} (h:0≤i∧i≤5):3≤(zKb i).1:=by
  rcases zKc h with rfl|rfl|rfl|rfl|rfl|rfl <;> decide
def Cert (p g:Int):Prop:= ∃es,zAb es∧zAp es p g
def zA2 (p g:Int) (w:World) (r:Ending) (w':World):Prop:=
  Below w.heap.size w w'∧
  ((∃er,p=0∧er≠0∧r= .returned (.tuple #[.pointer none, .int .i64 er]))∨
   (∃v,3≤p∧Cert p g∧r= .returned (.tuple #[v, .int .i64 0])∧Fd w' w'.heap.size v p g))
set_option maxHeartbeats 1000000 in
theorem zA0 (i:Int) (w:World):
    Calls Tryz.prog 50 #[.int .i64 i] w (zA2 (zKb i).1 (zKb i).2 w):=by
  by_cases h:0≤i∧i≤5
  · obtain ⟨hl,hA,hE,hF⟩:=zKh h
    have hk:=fun w=>zKe i w h
    have hp:=zKd h
    generalize zKa i=es at *
    obtain ⟨p,hpe⟩: ∃p,p=(zKb i).1:=⟨_,rfl⟩
    obtain ⟨g,hge⟩: ∃g,g=(zKb i).2:=⟨_,rfl⟩
    rw [←hpe,←hge]
    rw [←hpe] at hk hp hF
    rw [←hge] at hF
    clear hpe hge h
    have HA:=Lib.hid hA
    have HE:=Lib.hid hE
    have HF:=Lib.hid hF
    clear hA hE hF
    have tp:(p == 0)=false:=by simp;omega
    go_enter Tryz.func50,Tryz.ntmps50
    go_wp2_with fail
    refine (hk w).mono ?_
    rintro r w1 ⟨A,c,rfl,hlc,hB1,hR⟩
    go_wp2_with fail
    refine (zH0 A c es p w1 (by omega) hlc hR HE.out).mono ?_
    rintro r w2 ⟨hB2,hN⟩
    have hB:=hB1.trans (hB2.mono hB1.size)
    rcases hN with ⟨er,h1,_⟩|⟨_,h1,_⟩|⟨v,g',h1,hF',rfl,hFd⟩
    · exact absurd HA.out h1
    · obtain ⟨k,hk1,hk2,_⟩:=HF.out
      exact absurd hk2 (h1 _ (by rw [List.getD_eq_getElem?_getD,List.getElem?_eq_getElem hk1];simp))
    · have hg:g'=g:=by
        obtain ⟨a,a1,a2,a3,a4⟩:=HF.out
        obtain ⟨b,b1,b2,b3,b4⟩:=hF'
        have:a=b:=by
          rcases Nat.lt_trichotomy a b with h|h|h
          · exact absurd a2 (b4 a h)
          · exact h
          · exact absurd b2 (a4 b h)
        subst this
        rw [←a3,←b3]
      subst hg
      clear hF' hk hB1 hB2 hR
      go_wp2
      go_ret2
      exact ⟨hB, .inr ⟨v,hp,⟨es,HA.out,HF.out⟩,rfl,hFd⟩⟩
  · have hz:zKb i=(0,0):=by
      unfold zKb
      rw [if_neg (by omega),if_neg (by omega),if_neg (by omega),if_neg (by omega),if_neg (by omega),if_neg (by omega)]
    rw [hz]
    have hk:=fun w=>zKg i w (by omega)
    clear h hz
    go_enter Tryz.func50,Tryz.ntmps50
    go_wp2_with fail
    refine (hk w).mono ?_
    rintro r w1 ⟨A,c,rfl,hlc,hB1,hR⟩
    go_wp2
    go_ret2
    exact ⟨hB1, .inl ⟨1,rfl,by decide,rfl⟩⟩
end

section
/- The transform by the document: what it is, as numbers. -/
open Go.RowKit
theorem zJA (xs:List Int) (i:Nat) (h:i<xs.length):ints .u64 (xs.take (i+1))=ints .u64 (xs.take i) ++ [.int .u64 (xs.getD i 0)]:=by
 rw [List.take_succ_eq_append_getElem h,List.getD_eq_getElem?_getD,List.getElem?_eq_getElem h,ints,List.map_append];rfl
theorem zHV {n:Nat} {f:Nat→Int} (h: ∀i,i<n→0≤f i∧f i≤18446744073709551615):U64s (full n f):=fun x hx=>by
 obtain ⟨i,hi,rfl⟩:=List.mem_map.1 hx
 exact h i (List.mem_range.1 hi)
end

section
/- A row that is right: its numbers are primes, and the numbers named have all powers. -/
open Alg
theorem zPi {fs:List (Int×Int)} (h: ∀x ∈ fs,1≤x.1) {q:Nat} (hq:Prime q) (hd:q∣(zPg fs).toNat): ∃x ∈ fs,q∣x.1.toNat:=by
 induction fs with
 | nil=>
  have h1:(zPg []).toNat=1:=rfl
  rw [h1] at hd
  have:=hq.1
  have:=Nat.le_of_dvd (by omega) hd
  omega
 | cons x t ih=>
  have hx:1≤x.1:=h x (by simp)
  have ht:1≤zPg t:=zPj fun y hy=>h y (by simp [hy])
  have e:(zPg (x :: t)).toNat=x.1.toNat^x.2.toNat*(zPg t).toNat:=by
   rw [zPg,Int.toNat_mul (Int.le_of_lt (Int.pow_pos (by omega))) (by omega)]
   congr 1
   obtain ⟨a,ha⟩:=Int.eq_ofNat_of_zero_le (show 0≤x.1 by omega)
   rw [ha,←Int.natCast_pow]
   rfl
  rw [e] at hd
  rcases hq.dvd_mul hd with h1|h1
  ·exact ⟨x,by simp,hq.dvd_pow h1⟩
  ·obtain ⟨y,hy,hd'⟩:=ih (fun y hy=>h y (by simp [hy])) h1
   exact ⟨y,by simp [hy],hd'⟩
theorem zXq {p:Nat} [NeZero p] (hp:2≤p) (g:Int) (k:Nat):(g^k)%(p:Int)=1↔pw (zt p g) k=1:=by
 rw [←zt_pow,←zt_one,zt_eq]
 rw [Int.emod_eq_of_lt (show (0:Int)≤1 by omega) (by omega)]
theorem zRX {ahead:List Ent} {e:Ent} (h:zAG ahead e) (hA: ∀x ∈ ahead,Prime x.p.toNat):Prime e.p.toNat∧ ∀ [NeZero e.p.toNat],Ord (zt e.p.toNat e.g) (e.p.toNat-1):=by
 have p3:=h.p3
 have hpe:((e.p.toNat:Nat):Int)=e.p:=by omega
 have hfp: ∀k,k<e.fs.length→Prime (e.fs.getD k (0,0)).1.toNat:=fun k hk=>by
  cases k with
  | zero=>
   rw [h.whole.two]
   exact ⟨by decide,fun d hd=>by
    have:=Nat.le_of_dvd (by decide) hd
    have h2:(2:Int).toNat=2:=rfl
    rw [h2] at this hd ⊢
    have:d=0∨d=1∨d=2:=by omega
    rcases this with rfl|rfl|rfl
    ·omega
    ·exact .inl rfl
    ·exact .inr rfl⟩
  | succ k=>
   obtain ⟨x,hx,hxe⟩:=List.any_eq_true.1 (h.whole.rise k hk).2
   rw [←(beq_iff_eq.1 hxe)]
   exact hA x hx
 haveI hne:NeZero e.p.toNat:=⟨by omega⟩
 have hord:Ord (zt e.p.toNat e.g) (e.p.toNat-1):=by
  refine lucas (by omega) ?_ ?_
  ·rw [←zXq (by omega),hpe,show e.p.toNat-1=(e.p-1).toNat by omega]
   exact h.full.one
  ·intro q hq hd
   have hd':q∣(zPg e.fs).toNat:=by rw [h.whole.prod,show (e.p-1).toNat=e.p.toNat-1 by omega];exact hd
   obtain ⟨x,hx,hqx⟩:=zPi h.whole.pos hq hd'
   obtain ⟨k,hk,rfl⟩:=List.getElem_of_mem hx
   have e1:e.fs.getD k (0,0)=e.fs[k]:=by simp [List.getD_eq_getElem?_getD,List.getElem?_eq_getElem hk]
   have hk2:=hfp k hk
   have h2:=h.whole.two_le k hk
   rw [e1] at hk2 h2
   have hqe:=hq.eq_of_dvd hk2 hqx
   intro hc
   refine h.full.no _ hx ?_
   rw [←zXq (by omega)] at hc
   rw [hpe] at hc
   rw [show ((e.p-1)/e.fs[k].1).toNat=(e.p.toNat-1)/q by
    rw [hqe]
    have hx0:((e.fs[k].1.toNat:Nat):Int)=e.fs[k].1:=by omega
    rw [←hx0,show e.p-1=((e.p.toNat-1:Nat):Int) by omega,←Int.natCast_ediv,Int.toNat_natCast]
    rw [Int.toNat_natCast]]
   exact hc
 exact ⟨prime_of_ord (by omega) hord,fun {_}=>hord⟩
theorem zB4 {es:List Ent} (h: ∀j,j<es.length→zAG (es.take j) (es.getD j Ent.none)): ∀j,j<es.length→Prime (es.getD j Ent.none).p.toNat:=by
 intro j
 induction j using Nat.strongRecOn with
 | _ j ih=>
  intro hj
  refine (zRX (h j hj) fun x hx=>?_).1
  obtain ⟨i,hi,rfl⟩:=List.getElem_of_mem hx
  rw [List.length_take] at hi
  have:=ih i (by omega) (by omega)
  rw [List.getElem_take]
  simpa only [List.getD_eq_getElem?_getD,List.getElem?_eq_getElem (show i<es.length by omega),Option.getD_some] using this
theorem Cert.prime {p g:Int} (h:Cert p g):Prime p.toNat∧ ∀ [NeZero p.toNat],Ord (zt p.toNat g) (p.toNat-1):=by
 obtain ⟨es,hA,k,hk,rfl,rfl,_⟩:=h
 refine zRX (hA.2 k hk) fun x hx=>?_
 obtain ⟨i,hi,rfl⟩:=List.getElem_of_mem hx
 rw [List.length_take] at hi
 have:=zB4 hA.2 i (by omega)
 rw [List.getElem_take]
 simpa only [List.getD_eq_getElem?_getD,List.getElem?_eq_getElem (show i<es.length by omega),Option.getD_some] using this
theorem Cert.gr {p g:Int} (h:Cert p g):2≤g∧g<p:=by
 obtain ⟨es,hA,k,hk,rfl,rfl,_⟩:=h
 exact ⟨(hA.2 k hk).g2,(hA.2 k hk).gp⟩
end

section
/- Lists of residues; the document's transform is that of the residues. -/
open Go.RowKit
open Alg
section
variable {p:Nat} [NeZero p]
def lst (n:Nat) (f:Nat→Fin p):List Int:=full n fun i=>((f i).val:Int)
theorem zLb (n:Nat) (f:Nat→Fin p):(lst n f).length=n:=zHS _ _
theorem zKY {n:Nat} {f:Nat→Fin p} {i:Nat} (hi:i<n):(lst n f).getD i 0=((f i).val:Int):=zHR hi
theorem zHQ {n:Nat} {f g:Nat→Int} (h: ∀i,i<n→f i=g i):full n f=full n g:=List.map_congr_left fun i hi=>h i (List.mem_range.1 hi)
theorem zKW {n:Nat} {f g:Nat→Fin p} (h: ∀i,i<n→f i=g i):lst n f=lst n g:=zHQ fun i hi=>by rw [h i hi]
theorem zLd (hp:(p:Int)<9223372036854775808) (n:Nat) (f:Nat→Fin p):U64s (lst n f):=zHV fun i _=>by have:=(f i).isLt;omega
theorem zKZ (n:Nat) (f:Nat→Fin p):zI1 p (lst n f)=true:=by
 unfold zI1
 rw [List.all_eq_true]
 intro x hx
 obtain ⟨i,_,rfl⟩:=List.mem_map.1 hx
 have:=(f i).isLt
 simp
def rz (p:Nat) [NeZero p] (L:List Int) (i:Nat):Fin p:=zt p (L.getD i 0)
theorem zXr {x:Int} (h0:0≤x) (h1:x<p):((zt p x).val:Int)=x:=by rw [zt_val,Int.emod_eq_of_lt h0 h1]
theorem zLc {L:List Int} (hL:zI1 p L=true) (hU:U64s L):lst L.length (rz p L)=L:=by
 apply List.ext_getElem
 ·rw [zLb]
 ·intro i h1 h2
  have hg:L[i]<(p:Int):=by
   unfold zI1 at hL
   simpa using List.all_eq_true.1 hL L[i] (List.getElem_mem h2)
  simp only [lst,full,List.getElem_map,List.getElem_range,rz,List.getD_eq_getElem?_getD,List.getElem?_eq_getElem h2,Option.getD_some]
  exact zXr (hU _ (List.getElem_mem h2)).1 hg
theorem zSG {n:Nat} {f:Nat→Fin p} {i:Nat} (hi:i<n):rz p (lst n f) i=f i:=by
 unfold rz
 rw [zKY hi,zt_of_val]
theorem zGt (x y:Int):(x+y)%(p:Int)=((zt p x+zt p y).val:Int):=by rw [←zt_add,zt_val]
theorem zGy (x y:Int):(x-y)%(p:Int)=((zt p x-zt p y).val:Int):=by rw [←zt_sub,zt_val]
theorem zGv (x y:Int):x*y%(p:Int)=((zt p x*zt p y).val:Int):=by rw [←zt_mul,zt_val]
def rt (g:Fin p) (n:Nat) (inv:Bool):Fin p:=if inv then pw (pw g ((p-1)/n)) (n-1) else pw g ((p-1)/n)
def sc (p:Nat) [NeZero p] (n:Nat) (inv:Bool):Fin p:=if inv then pw (zt p (n:Int)) (p-2) else 1
def tr (g:Fin p) (n:Nat) (inv:Bool) (a:Nat→Fin p) (i:Nat):Fin p:=sc p n inv*dft (rt g n inv) n a i
theorem zNw {a:Fin p} {N n:Nat} (h:Ord a N) (hn:n∣N) (h0:0<n):Ord (pw a (N/n)) n:=by
 obtain ⟨k,rfl⟩:=hn
 rw [Nat.mul_div_cancel_left _ h0]
 refine ⟨h0,by rw [←pw_mul,Nat.mul_comm];exact h.2.1,fun m h1 h2 h3=>?_⟩
 rw [←pw_mul] at h3
 have hk:0<k:=by
  rcases Nat.eq_zero_or_pos k with e|e
  ·subst e;have:=h.1;simp at this
  ·exact e
 exact h.2.2 (k*m) (Nat.mul_pos hk h1) (by rw [Nat.mul_comm n k];exact Nat.mul_lt_mul_of_pos_left h2 hk) h3
theorem zNx {w v:Fin p} {n:Nat} (hw:Ord w n) (hv:w*v=1):Ord v n:=by
 have hvn: ∀k,pw w k*pw v k=1:=fun k=>by rw [←mul_pw,hv,one_pw]
 refine ⟨hw.1,by have:=hvn n;rw [hw.2.1] at this;grind,fun m h0 h1 h2=>hw.2.2 m h0 h1 ?_⟩
 have:=hvn m
 rw [h2] at this;grind
theorem zPu {w:Fin p} {n:Nat} (hw:Ord w n):w*pw w (n-1)=1:=by
 have h1:=hw.2.1
 rw [show n=(n-1)+1 by have:=hw.1;omega,pw_succ] at h1
 rw [←h1];grind
theorem zSz {g:Fin p} {n:Nat} (hg:Ord g (p-1)) (hn:n∣p-1) (h0:0<n) (inv:Bool):Ord (rt g n inv) n:=by
 have h:=zNw hg hn h0
 cases inv with
 | false=>exact h
 | true=>exact zNx h (zPu h)
theorem zEl {n:Nat} {most:Int} (hp:1≤p) (h:chk p n most=0):n∣p-1∧0<n:=by
 obtain ⟨a,b,c⟩:=zEq h
 refine ⟨?_,by omega⟩
 have:((p-1:Nat):Int)=(p:Int)-1:=by omega
 rw [←this,←Int.natCast_emod] at c
 exact Nat.dvd_of_mod_eq_zero (by omega)
theorem zAw.unit {x t:Int} (hp:Prime p) (h:zAw p x t) (hx:zt p x≠0):zt p t*zt p x=1:=by
 rcases h with ⟨_,_,_,h⟩|⟨h,_⟩
 ·rw [←zt_mul,←zt_one,zt_eq,h]
  have:=hp.1
  rw [Int.emod_eq_of_lt (by omega) (by omega)]
 ·exfalso
  apply h
  rw [Int.toNat_natCast]
  refine hp.coprime fun hd=>hx ?_
  have h1:=Int.emod_nonneg x (show (p:Int)≠0 by have:=hp.1;omega)
  have h2:=Int.emod_lt_of_pos x (show (0:Int)<p by have:=hp.1;omega)
  obtain ⟨c,hc⟩:=hd
  have:(x%(p:Int)).toNat=0:=by
   rcases Nat.eq_zero_or_pos c with e|e
   ·subst e;simpa using hc
   ·have:p*1≤p*c:=Nat.mul_le_mul_left _ e
    omega
  rw [←zt_zero,zt_eq];simp;omega
theorem zVS {x a b:Fin p} (ha:a*x=1) (hb:b*x=1):a=b:=by
 have h1:a*x*b=b:=by rw [ha];grind
 have h2:b*x*a=a:=by rw [hb];grind
 rw [←h1,←h2];grind
theorem zAH.zt {n:Nat} {g W:Int} {inv:Bool} (hp:Prime p) (hg:Ord (zt p g) (p-1)) (hd:n∣p-1) (h0:0<n) (h:zAH p g n inv W):zt p W=rt (zt p g) n inv:=by
 have e:(((p:Int)-1)/(n:Int)).toNat=(p-1)/n:=by
  have:=hp.1
  rw [show (p:Int)-1=((p-1:Nat):Int) by omega,←Int.natCast_ediv,Int.toNat_natCast]
 have ho:=zNw hg hd h0
 cases inv with
 | false=>rw [h.1 rfl,zt_emod,zt_pow,e];rfl
 | true=>
  have h1:=h.2 rfl
  rw [e] at h1
  have hz:Alg.zt p (g^((p-1)/n)%(p:Int))=pw (Alg.zt p g) ((p-1)/n):=by rw [zt_emod,zt_pow]
  have hne:Alg.zt p (g^((p-1)/n)%(p:Int))≠0:=by
   rw [hz]
   exact unit_ne_zero hp.1 (zPu ho)
  have h2:=h1.unit hp hne
  rw [hz] at h2
  refine zVS h2 ?_
  show pw _ (n-1)*_=1
  have:=zPu ho
  grind
theorem zXp {n:Nat} (hp:Prime p) (hd:n∣p-1) (h0:0<n):zt p (n:Int)≠0:=fun h=>by
 have:=hp.1
 have h1:=Nat.le_of_dvd (by omega) hd
 rw [←zt_zero,zt_eq,Int.emod_eq_of_lt (by omega) (by omega)] at h
 simp at h;omega
theorem zSY {n:Nat} {t:Int} (hp:Prime p) (hd:n∣p-1) (h0:0<n) (h:zAw p n t):zt p t=sc p n true:=by
 have hne:=zXp hp hd h0
 refine zVS (h.unit hp hne) ?_
 show pw _ (p-2)*_=1
 have h1:=fermat hp _ hne
 have:=hp.1
 rw [show p-1=(p-2)+1 by omega,pw_succ] at h1
 exact h1
theorem zSZ {n:Nat} (hp:Prime p) (hd:n∣p-1) (h0:0<n):sc p n true*zt p (n:Int)=1:=by
 have hne:=zXp hp hd h0
 have h1:=fermat hp _ hne
 have:=hp.1
 rw [show p-1=(p-2)+1 by omega,pw_succ] at h1
 exact h1
theorem zVh {g:Fin p} {n:Nat} (hp:Prime p) (hg:Ord g (p-1)) (hd:n∣p-1) (h0:0<n) (inv:Bool) (a:Nat→Fin p) (i:Nat) (hi:i<n):tr g n (!inv) (tr g n inv a) i=a i:=by
 have ho:=zNw hg hd h0
 have hu:=zSZ hp hd h0
 have hl:=zPu ho
 have hmul: ∀(c:Fin p) (w:Fin p) (b:Nat→Fin p),dft w n (fun j=>c*b j) i=c*dft w n b i:=fun c w b=>by
  unfold dft
  rw [←sm_mul]
  exact sm_congr fun j _=>by grind
 have hs:sc p n (!inv)*sc p n inv=sc p n true:=by
  cases inv
  ·show sc p n true*1=_;grind
  ·show 1*sc p n true=_;grind
 show sc p n (!inv)*dft (rt g n (!inv)) n (fun j=>sc p n inv*dft (rt g n inv) n a j) i=a i
 rw [hmul]
 have hb:dft (rt g n (!inv)) n (dft (rt g n inv) n a) i=zt p (n:Int)*a i:=by
  cases inv with
  | false=>exact dft_back hp ho hl a i hi
  | true=>exact dft_back hp (zNx ho hl) ((Fin.mul_comm _ _).trans hl) a i hi
 have:sc p n (!inv)*(sc p n inv*dft (rt g n (!inv)) n (dft (rt g n inv) n a) i)=(sc p n (!inv)*sc p n inv*zt p (n:Int))*a i:=by rw [hb];grind
 rw [this,hs,hu];grind
end
end

section
/- Transforms by halves: the stages, upward and downward; bits turned about. -/
open Alg
section
variable {p:Nat} [NeZero p]
def upF (w:Fin p) (S st:Nat) (F:Nat→Fin p) (i:Nat):Fin p:=
 if i%(2*S)<S then F i+pw w (i%(2*S)*st)*F (i+S) else F (i-S)-pw w ((i%(2*S)-S)*st)*F i
def dnF (w:Fin p) (S st:Nat) (F:Nat→Fin p) (i:Nat):Fin p:=
 if i%(2*S)<S then F i+F (i+S) else pw w ((i%(2*S)-S)*st)*(F (i-S)-F i)
theorem zC7 {b S j:Nat} (h:j<2*S):(b*(2*S)+j)%(2*S)=j:=by
 rw [Nat.add_comm,Nat.add_mul_mod_self_right,Nat.mod_eq_of_lt h]
theorem zVZ {w:Fin p} {S st b j:Nat} {F:Nat→Fin p} (hj:j<S):upF w S st F (b*(2*S)+j)=F (b*(2*S)+j)+pw w (j*st)*F (b*(2*S)+j+S):=by
 unfold upF;rw [zC7 (by omega),if_pos hj]
theorem zVY {w:Fin p} {S st b j:Nat} {F:Nat→Fin p} (hj:j<S):upF w S st F (b*(2*S)+j+S)=F (b*(2*S)+j)-pw w (j*st)*F (b*(2*S)+j+S):=by
 unfold upF
 rw [show b*(2*S)+j+S=b*(2*S)+(j+S) by omega,zC7 (by omega),if_neg (by omega),show j+S-S=j by omega,show b*(2*S)+(j+S)-S=b*(2*S)+j by omega]
theorem zFJ {w:Fin p} {S st b j:Nat} {F:Nat→Fin p} (hj:j<S):dnF w S st F (b*(2*S)+j)=F (b*(2*S)+j)+F (b*(2*S)+j+S):=by
 unfold dnF;rw [zC7 (by omega),if_pos hj]
theorem zFI {w:Fin p} {S st b j:Nat} {F:Nat→Fin p} (hj:j<S):dnF w S st F (b*(2*S)+j+S)=pw w (j*st)*(F (b*(2*S)+j)-F (b*(2*S)+j+S)):=by
 unfold dnF
 rw [show b*(2*S)+j+S=b*(2*S)+(j+S) by omega,zC7 (by omega),if_neg (by omega),show j+S-S=j by omega,show b*(2*S)+(j+S)-S=b*(2*S)+j by omega]
def upN (w:Fin p) (a:Nat→Fin p) (k:Nat):Nat→Nat→Fin p
 | 0=>fun i=>a (rev k i)
 | s+1=>upF w (2^s) (2^(k-(s+1))) (upN w a k s)
def dnN (w:Fin p) (a:Nat→Fin p) (k:Nat):Nat→Nat→Fin p
 | 0=>a
 | t+1=>dnF w (2^(k-(t+1))) (2^t) (dnN w a k t)
theorem zOF {w:Fin p} {k s t:Nat} (hp:Prime p) (hw:Ord w (2^k)) (h:k=s+t+1):pw (pw w (2^t)) (2^s)= -1:=by
 rw [←pw_mul,←Nat.pow_add]
 refine zIN hp hw ?_
 rw [h,Nat.pow_succ,Nat.add_comm s t];omega
theorem zOI (w:Fin p) (t:Nat):pw w (2^t)*pw w (2^t)=pw w (2^(t+1)):=by
 rw [←pw_add,Nat.pow_succ];congr 1;omega
theorem zWb {w:Fin p} {k:Nat} (hp:Prime p) (hw:Ord w (2^k)) (a:Nat→Fin p): ∀(s t:Nat),s+t=k→ ∀b i,b<2^t→i<2^s→
  upN w a k s (b*2^s+i)=dft (pw w (2^t)) (2^s) (fun j=>a (rev t b+2^t*j)) i:=by
 intro s
 induction s with
 | zero=>
  intro t ht b i hb hi
  have h0:i=0:=by simpa using hi
  have h1:t=k:=by omega
  subst h0;subst h1
  rw [Nat.pow_zero,dft_one,Nat.mul_one,Nat.add_zero,Nat.mul_zero,Nat.add_zero];rfl
 | succ s ih=>
  intro t ht b i hb hi
  have e1:k-(s+1)=t:=by omega
  have hm1:=zOF (s:=s) (t:=t) hp hw (by omega)
  have hE:=ih (t+1) (by omega) (2*b)
  have hO:=ih (t+1) (by omega) (2*b+1)
  have hb2:2*b+1<2^(t+1):=by rw [Nat.pow_succ];omega
  have eA:(fun j=>a (rev (t+1) (2*b)+2^(t+1)*j))=fun j=>a (rev t b+2^t*(2*j)):=by
   funext j;rw [zRF,Nat.pow_succ,Nat.mul_assoc]
  have eB:(fun j=>a (rev (t+1) (2*b+1)+2^(t+1)*j))=fun j=>a (rev t b+2^t*(2*j+1)):=by
   funext j;rw [zRH,Nat.pow_succ,Nat.mul_assoc,Nat.mul_add,Nat.mul_one];congr 1;omega
  rw [Nat.pow_succ,Nat.mul_comm (2^s) 2]
  rw [eA] at hE
  rw [eB] at hO
  have i1:2*b*2^s=b*(2*2^s):=by rw [Nat.mul_comm 2 b,Nat.mul_assoc]
  have i2:(2*b+1)*2^s=b*(2*2^s)+2^s:=by rw [Nat.add_mul,i1,Nat.one_mul]
  rw [i1] at hE
  rw [i2] at hO
  rw [upN,e1]
  rcases Nat.lt_or_ge i (2^s) with h|h
  ·have hO1:=hO i hb2 h
   rw [show b*(2*2^s)+2^s+i=b*(2*2^s)+i+2^s by omega] at hO1
   rw [zVZ h,hE i (by omega) h,hO1,dft_up_low,zOI,←pw_mul,Nat.mul_comm (2^t) i]
  ·obtain ⟨j,rfl⟩: ∃j,i=j+2^s:=⟨i-2^s,by omega⟩
   have hj:j<2^s:=by rw [Nat.pow_succ] at hi;omega
   have hO1:=hO j hb2 hj
   rw [show b*(2*2^s)+2^s+j=b*(2*2^s)+j+2^s by omega] at hO1
   rw [←Nat.add_assoc,zVY hj,hE j (by omega) hj,hO1,dft_up_high hm1,zOI,←pw_mul,Nat.mul_comm (2^t) j]
theorem zWa {w:Fin p} {k:Nat} (hp:Prime p) (hw:Ord w (2^k)) (a:Nat→Fin p) (i:Nat) (hi:i<2^k):upN w a k k i=dft w (2^k) a i:=by
 have h:=zWb hp hw a k 0 (by omega) 0 i (by simp) hi
 rw [Nat.zero_mul,Nat.zero_add,Nat.pow_zero,pw_one] at h
 rw [h]
 exact dft_congr (fun j _=>by rw [Nat.one_mul,rev,Nat.zero_add]) i
theorem zFL {w:Fin p} {k:Nat} (hp:Prime p) (hw:Ord w (2^k)) (a:Nat→Fin p): ∀(t s:Nat),s+t=k→ ∀b i,b<2^t→i<2^s→
  dft w (2^k) a (rev t b+2^t*i)=dft (pw w (2^t)) (2^s) (fun j=>dnN w a k t (b*2^s+j)) i:=by
 intro t
 induction t with
 | zero=>
  intro s hs b i hb hi
  have h0:b=0:=by simpa using hb
  have h1:s=k:=by omega
  subst h0;subst h1
  rw [Nat.pow_zero,pw_one,Nat.one_mul,rev,Nat.zero_add,Nat.zero_mul]
  exact dft_congr (fun j _=>by rw [Nat.zero_add];rfl) i
 | succ t ih=>
  intro s hs b' i hb hi
  have e1:k-(t+1)=s:=by omega
  have hm1:=zOF (s:=s) (t:=t) hp hw (by omega)
  obtain ⟨b,e,he,rfl⟩: ∃b e,e<2∧b'=2*b+e:=⟨b'/2,b'%2,Nat.mod_lt _ (by omega),by omega⟩
  have hb2:b<2^t:=by rw [Nat.pow_succ] at hb;omega
  have hi2:2*i+e<2^(s+1):=by rw [Nat.pow_succ];omega
  have hI:=ih (s+1) (by omega) b (2*i+e) hb2 hi2
  rw [Nat.pow_succ 2 s,Nat.mul_comm (2^s) 2] at hI
  have i1:2*b*2^s=b*(2*2^s):=by rw [Nat.mul_comm 2 b,Nat.mul_assoc]
  rw [←zOI]
  rcases (show e=0∨e=1 by omega) with h|h
  ·subst h
   simp only [Nat.add_zero] at hI ⊢
   rw [zRF,show 2^(t+1)*i=2^t*(2*i) by rw [Nat.pow_succ,Nat.mul_assoc],hI,dft_down_even hm1,i1]
   refine dft_congr (fun j hj=>?_) i
   rw [dnN,e1,zFJ hj,Nat.add_assoc]
  ·subst h
   rw [zRH,show 2^t+rev t b+2^(t+1)*i=rev t b+2^t*(2*i+1) by rw [Nat.pow_succ,Nat.mul_assoc,Nat.mul_add,Nat.mul_one];omega,hI,dft_down_odd hm1]
   refine dft_congr (fun j hj=>?_) i
   rw [dnN,e1,show (2*b+1)*2^s+j=b*(2*2^s)+j+2^s by rw [Nat.add_mul,i1,Nat.one_mul];omega,zFI hj,←pw_mul,Nat.mul_comm (2^t) j,Nat.add_assoc]
theorem zFK {w:Fin p} {k:Nat} (hp:Prime p) (hw:Ord w (2^k)) (a:Nat→Fin p) (b:Nat) (hb:b<2^k):dnN w a k k b=dft w (2^k) a (rev k b):=by
 have h:=zFL hp hw a k 0 (by omega) b 0 hb (by simp)
 rw [Nat.mul_zero,Nat.add_zero,Nat.pow_zero,dft_one,Nat.mul_one,Nat.add_zero] at h
 exact h.symm
def hx (S i:Nat):Nat:=i/(2*S)*S+i%S
theorem zIX {S b j:Nat} (hj:j<S):hx S (b*(2*S)+j)=b*S+j:=by
 unfold hx
 rw [Nat.add_comm (b*(2*S)) j,Nat.add_mul_div_right _ _ (by omega),Nat.div_eq_of_lt (by omega),Nat.zero_add,←Nat.mul_assoc,Nat.add_mul_mod_self_right,Nat.mod_eq_of_lt hj]
theorem zIV {S b j:Nat} (hj:j<S):hx S (b*(2*S)+j+S)=b*S+j:=by
 unfold hx
 rw [Nat.add_assoc,Nat.add_comm (b*(2*S)) (j+S),Nat.add_mul_div_right _ _ (by omega),Nat.div_eq_of_lt (by omega),Nat.zero_add,←Nat.mul_assoc,Nat.add_mul_mod_self_right,Nat.add_mod_right,Nat.mod_eq_of_lt hj]
theorem zIW {S b j i:Nat} (hj:j<S) (h:hx S i=b*S+j):i=b*(2*S)+j∨i=b*(2*S)+j+S:=by
 unfold hx at h
 have h0:i%S<S:=Nat.mod_lt _ (by omega)
 have hq:i/(2*S)=b:=by
  have h1:(i/(2*S)*S+i%S)/S=i/(2*S):=by rw [Nat.add_comm,Nat.add_mul_div_right _ _ (by omega),Nat.div_eq_of_lt h0,Nat.zero_add]
  have h2:(b*S+j)/S=b:=by rw [Nat.add_comm,Nat.add_mul_div_right _ _ (by omega),Nat.div_eq_of_lt hj,Nat.zero_add]
  rw [←h1,h,h2]
 have hr:i%S=j:=by rw [hq] at h;omega
 have hd:=Nat.div_add_mod i (2*S)
 have hm:i%(2*S)<2*S:=Nat.mod_lt _ (by omega)
 have hmm:i%(2*S)%S=j:=by rw [Nat.mod_mod_of_dvd _ ⟨2,by omega⟩,hr]
 rw [hq,Nat.mul_comm] at hd
 obtain ⟨m,hme⟩: ∃m,m=i%(2*S):=⟨_,rfl⟩
 rw [←hme] at hd hm hmm
 rcases Nat.lt_or_ge m S with h1|h1
 ·rw [Nat.mod_eq_of_lt h1] at hmm;omega
 ·rw [Nat.mod_eq_sub_mod h1,Nat.mod_eq_of_lt (by omega)] at hmm;omega
def brow (F F':Nat→Fin p) (S n c:Nat):List Int:=full n fun i=>if hx S i<c then ((F' i).val:Int) else ((F i).val:Int)
theorem zCH (F F':Nat→Fin p) (S n:Nat):brow F F' S n 0=lst n F:=zHQ fun i _=>by rw [if_neg (by omega)]
theorem zCC {F F':Nat→Fin p} {S B:Nat} (hS:0<S):brow F F' S (B*(2*S)) (B*S)=lst (B*(2*S)) F':=zHQ fun i hi=>by
 have h1:i/(2*S)<B:=(Nat.div_lt_iff_lt_mul (by omega)).2 hi
 have h2:i%S<S:=Nat.mod_lt _ hS
 have h3:(i/(2*S)+1)*S≤B*S:=Nat.mul_le_mul_right _ h1
 rw [if_pos (by unfold hx;rw [Nat.add_mul,Nat.one_mul] at h3;omega)]
theorem zHT {n:Nat} {f f':Nat→Int} {i0 i1:Nat} {x0 x1:Int} (h0:f' i0=x0) (h1:f' i1=x1) (d:i0≠i1)
  (hr: ∀j,j<n→j≠i0→j≠i1→f' j=f j):((full n f).set i0 x0).set i1 x1=full n f':=by
 unfold full
 apply List.ext_getElem
 ·simp
 ·intro j hj hj'
  simp at hj'
  simp only [List.getElem_set,List.getElem_map,List.getElem_range]
  by_cases e1:i1=j
  ·subst e1;rw [if_pos rfl,h1]
  ·rw [if_neg e1]
   by_cases e0:i0=j
   ·subst e0;rw [if_pos rfl,h0]
   ·rw [if_neg e0,hr j hj' (Ne.symm e0) (Ne.symm e1)]
theorem zCG {F F':Nat→Fin p} {S n b j:Nat} (hj:j<S):
  ((brow F F' S n (b*S+j)).set (b*(2*S)+j) ((F' (b*(2*S)+j)).val:Int)).set (b*(2*S)+j+S) ((F' (b*(2*S)+j+S)).val:Int)=brow F F' S n (b*S+j+1):=by
 refine zHT (by rw [zIX hj,if_pos (by omega)]) (by rw [zIV hj,if_pos (by omega)]) (by omega) fun i hi n0 n1=>?_
 have hne:hx S i≠b*S+j:=fun h=>by
  rcases zIW hj h with h|h
  ·exact n0 h
  ·exact n1 h
 by_cases h:hx S i<b*S+j
 ·rw [if_pos h,if_pos (by omega)]
 ·rw [if_neg h,if_neg (by omega)]
theorem zCF {F F':Nat→Fin p} {S n b j:Nat} (hj:j<S) (hn:b*(2*S)+j<n):(brow F F' S n (b*S+j)).getD (b*(2*S)+j) 0=((F (b*(2*S)+j)).val:Int):=by
 unfold brow
 rw [zHR hn,zIX hj,if_neg (by omega)]
theorem zCD {F F':Nat→Fin p} {S n b j:Nat} (hj:j<S) (hn:b*(2*S)+j+S<n):(brow F F' S n (b*S+j)).getD (b*(2*S)+j+S) 0=((F (b*(2*S)+j+S)).val:Int):=by
 unfold brow
 rw [zHR hn,zIV hj,if_neg (by omega)]
end
def trow (k:Nat) (L:List Int) (i:Nat):List Int:=full (2^k) fun j=>if rev k j<i then L.getD (rev k j) 0 else 0
theorem zV1 (k:Nat) (L:List Int):trow k L 0=List.replicate (2^k) 0:=by
 unfold trow full
 rw [List.map_congr_left (g:=fun _=>(0:Int)) (fun i _=>by rw [if_neg (by omega)])]
 simp [List.map_const']
theorem zVy (k:Nat) (L:List Int):trow k L (2^k)=full (2^k) fun j=>L.getD (rev k j) 0:=zHQ fun j _=>by rw [if_pos (zRG _ _)]
theorem zV0 {k i:Nat} {L:List Int} (hi:i<2^k):(trow k L i).set (rev k i) (L.getD i 0)=trow k L (i+1):=by
 unfold trow full
 apply List.ext_getElem
 ·simp
 ·intro j hj hj'
  simp at hj'
  simp only [List.getElem_set,List.getElem_map,List.getElem_range]
  by_cases e:rev k i=j
  ·subst e;rw [if_pos rfl,zRI k i hi,if_pos (by omega)]
  ·rw [if_neg e]
   have hne:rev k j≠i:=fun h=>e (by rw [←h,zRI k j hj'])
   by_cases h:rev k j<i
   ·rw [if_pos h,if_pos (by omega)]
   ·rw [if_neg h,if_neg (by omega)]
end

section
/- slices.Clone at numbers. -/
open Go.RowKit
open Alg
theorem zP5 {P:Program} {f:FuncId} {args:Array Value} {w:World} {a n:Nat} {v:Value}
  (h:Calls P f args (w.drewN (a+n)) fun e w'=>e= .returned v∧ ∃m,w'=(w.drewN (a+n)).drewN m):
  Calls P f args (w.drewN (a+n)) fun e w''=>e= .returned v∧ ∃m,w''=w.drewN (a+m):=
 h.mono fun _ _ ⟨he,m,hm⟩=>⟨he,n+m,by rw [hm,World.drewN_drewN,Nat.add_assoc]⟩
theorem zBa (b o n:Nat):(⟨b,o,none⟩:Addr).add n=⟨b,o+n,none⟩:=by unfold Addr.add;split <;> simp_all
set_option maxHeartbeats 1000000 in
theorem zE4 (A:Option Addr) (c:Nat) (L:List Int) (w:World) (hl:L.length≤8796093022208) (hR:RdI w w.heap.size .u64 A L):
  Calls Tryz.prog 116 #[.slice A L.length c] w fun r w'=> ∃V,r= .returned V∧OwnU w' w.heap.size V L.length L∧Below w.heap.size w w':=by
 obtain ⟨i0,hi,hz0,hz1,hz2⟩:=info_parts zJt
 have hnil: ∀(W:World) (a:Option Addr) (n c:Nat),(binOp .eql 54 (.slice a n c) (.slice none 0 0)).run Tryz.prog W= .ok (.bool a.isNone) W:=fun W a n c=>Lib.run_eql_slice_nil W 54 22 a n c 0 0 Tryz.underlying54
 rcases A with _|ad
 ·have h1:L.length=0:=by
   rcases Nat.eq_zero_or_pos L.length with h|h
   ·exact h
   ·obtain ⟨b,o,h,_⟩:=hR h
    cases h
  have hf:L= []:=List.eq_nil_of_length_eq_zero h1
  subst hf
  go_enter Tryz.func116,Tryz.ntmps116
  go_wp2
  go_ret
  exact ⟨_,rfl,World.ownsRow_nil _ _ _ _,Below.refl _ _⟩
 ·have hcells: ∀j u,(ints .u64 L)[j]? =some u→w.cell? (ad.add j)=some u:=by
   intro j u hu
   have hj:j<L.length:=by
    rcases Nat.lt_or_ge j L.length with h|h
    ·exact h
    ·rw [List.getElem?_eq_none (by rw [zJ3];exact h)] at hu;cases hu
   obtain ⟨b,o,h,_,hc⟩:=hR (by omega)
   have h':ad=⟨b,o,none⟩:=Option.some.inj h
   rw [h']
   have h2:=hc j hj
   have h3:u= .int .u64 (L.getD j 0):=by
    simp [ints,List.getElem?_eq_getElem hj] at hu
    rw [←hu,List.getD_eq_getElem?_getD,List.getElem?_eq_getElem hj];rfl
   rw [h3,←h2,zBa]
  go_enter Tryz.func116,Tryz.ntmps116
  have hown:(w.alloc (.cells #[] 22)).ownsRow w.heap.size 22 1 (.slice (some ⟨w.heap.size,0,none⟩) 0 0) 0 []:=World.ownsRow_lit w #[] 0 (Nat.le_refl _) (by unfold maxLen;omega) rfl
  have hB:=(Below.refl w.heap.size w).alloc (Nat.le_refl _) (.cells #[] 22)
  have hcells2: ∀j u,(ints .u64 L)[j]? =some u→(w.alloc (.cells #[] 22)).cell? (ad.add j)=some u:=fun j u hu=>by
   have h1:=hcells j u hu
   exact (hB.cell (World.block_lt_of_cell? w _ h1)).trans h1
  have HC:=Lib.hid hcells2
  have h1: ∀u ∈ ints .u64 L,u.oneCell'=true:=fun u hu=>by
   obtain ⟨x,_,rfl⟩:=List.mem_map.1 hu
   rfl
  have H1:=Lib.hid h1
  clear hcells hcells2 h1
  go_wp2_with (at_builtin;refine wpList_append_own _ rfl _ _ 54 rfl w.heap.size 22 i0 (.int .u64 0) 1 8 Tryz.underlying54 hi hz0 hz1 hz2 rfl (by decide) _ 0 [] rfl hown ad L.length c (ints .u64 L) rfl ?c0 HC.out H1.out ?c3 ?c4 ?c5 ?_)
  case c0=>rw [zJ3];omega
  case c3=>unfold maxLen;omega
  case c4=>omega
  case c5=>simp
  intro v' w1 hown' hgrow _
  have HO:Hid (OwnU w1 w.heap.size v' L.length L):=Lib.hid (by
   unfold OwnU
   simpa using hown')
  have hB2:Below w.heap.size w w1:=hB.grown hgrow (by simp) (fun k hk=>by simp [Value.ownBlock] at hk;omega)
  clear hown' hown hgrow
  go_wp2
  go_ret
  exact ⟨_,rfl,HO.out,hB2⟩
end

section
/- Products of lists, round and round and straight on, and transforms. -/
open Alg
section
variable {p:Nat} [NeZero p]
theorem zAW {N j a b:Nat} (ha:a<N) (hb:b<N) (h:(a+j)%N=(b+j)%N):a=b:=by
 rcases Nat.le_total a b with h1|h1
 ·have h2:=Nat.sub_mod_eq_zero_of_mod_eq h.symm
  rw [show b+j-(a+j)=b-a by omega,Nat.mod_eq_of_lt (by omega)] at h2
  omega
 ·have h2:=Nat.sub_mod_eq_zero_of_mod_eq h
  rw [show a+j-(b+j)=a-b by omega,Nat.mod_eq_of_lt (by omega)] at h2
  omega
theorem zTV (N j:Nat) (F:Nat→Fin p):sm N (fun k=>F ((k+j)%N))=sm N F:=
 sm_perm N (fun k=>(k+j)%N) F (fun i hi=>Nat.mod_lt _ (by omega)) fun a b ha hb h=>zAW ha hb h
def cyc (N:Nat) (A B:Nat→Fin p) (i:Nat):Fin p:=sm N fun j=>A j*B ((i+(N-j))%N)
theorem zF3 {w:Fin p} {N:Nat} (hw:pw w N=1) (A B:Nat→Fin p) (m:Nat):dft w N (cyc N A B) m=dft w N A m*dft w N B m:=by
 have hv:pw (pw w m) N=1:=by rw [←pw_mul,Nat.mul_comm,pw_mul,hw,one_pw]
 have h1: ∀j,j<N→pw w (m*j)*dft w N B m=sm N fun i=>pw w (m*i)*B ((i+(N-j))%N):=fun j hj=>by
  unfold dft
  rw [←zTV N (N-j) (fun k=>pw w (m*k)*B k),←sm_mul]
  refine sm_congr fun i hi=>?_
  have h2:pw w (m*j)*pw w (m*((i+(N-j))%N))=pw w (m*i):=by
   rw [pw_mul,pw_mul,pw_mul,←pw_mod hv,←pw_add,show j+(i+(N-j))=i+N by omega,pw_add,hv];grind
  rw [←h2];grind
 have h3:dft w N A m*dft w N B m=sm N fun j=>sm N fun i=>pw w (m*i)*(A j*B ((i+(N-j))%N)):=by
  have:dft w N A m*dft w N B m=sm N fun j=>A j*(pw w (m*j)*dft w N B m):=by
   rw [show dft w N A m*dft w N B m=dft w N B m*dft w N A m by grind]
   unfold dft
   rw [←sm_mul]
   exact sm_congr fun j _=>by grind
  rw [this]
  refine sm_congr fun j hj=>?_
  rw [h1 j hj,←sm_mul]
  exact sm_congr fun i _=>by grind
 rw [h3,sm_swap]
 unfold dft cyc
 refine sm_congr fun i _=>?_
 rw [sm_mul]
def cv (A B:Nat→Fin p) (i:Nat):Fin p:=sm (i+1) fun j=>A j*B (i-j)
theorem zFv {N la lb i:Nat} {A B:Nat→Fin p} (hi:i<N) (hA: ∀j,la≤j→A j=0) (hB: ∀j,lb≤j→B j=0) (h:la+lb≤N+i+1):cyc N A B i=cv A B i:=by
 unfold cyc cv
 obtain ⟨m,rfl⟩: ∃m,N=(i+1)+m:=⟨N-(i+1),by omega⟩
 rw [sm_split]
 have h1:(sm m fun k=>A (i+1+k)*B ((i+(i+1+m-(i+1+k)))%(i+1+m)))=0:=by
  rw [←sm_const0 m]
  refine sm_congr fun k hk=>?_
  rw [show i+(i+1+m-(i+1+k))=i+m-k by omega,Nat.mod_eq_of_lt (by omega)]
  rcases Nat.lt_or_ge (i+1+k) la with h2|h2
  ·rw [hB _ (by omega)];grind
  ·rw [hA _ h2];grind
 rw [h1]
 have h2:(sm (i+1) fun j=>A j*B ((i+(i+1+m-j))%(i+1+m)))=sm (i+1) fun j=>A j*B (i-j):=sm_congr fun j hj=>by
  rw [show i+(i+1+m-j)=(i-j)+(i+1+m) by omega,Nat.add_mod_right,Nat.mod_eq_of_lt (by omega)]
 rw [h2];grind
theorem zVk {g:Fin p} {N:Nat} (hp:Prime p) (hg:Ord g (p-1)) (hd:N∣p-1) (h0:0<N) (A B:Nat→Fin p) (i:Nat) (hi:i<N):
  tr g N true (fun m=>tr g N false A m*tr g N false B m) i=cyc N A B i:=by
 have hw:pw (rt g N false) N=1:=(zSz hg hd h0 false).2.1
 have h1: ∀C m,tr g N false C m=dft (rt g N false) N C m:=fun C m=>by show (1:Fin p)*_=_;grind
 have h2:=zVh hp hg hd h0 false (cyc N A B) i hi
 rw [←h2]
 show sc p N true*dft (rt g N true) N _ i=sc p N true*dft (rt g N true) N _ i
 congr 1
 exact dft_congr (fun m _=>by rw [h1,h1,h1,zF3 hw]) i
def padz (n:Nat) (A:Nat→Fin p) (i:Nat):Fin p:=if i<n then A i else 0
theorem zNJ {n i:Nat} {A:Nat→Fin p} (h:i<n):padz n A i=A i:=if_pos h
theorem zNK {n i:Nat} {A:Nat→Fin p} (h:n≤i):padz n A i=0:=if_neg (by omega)
theorem zFu {n i:Nat} (hi:i<n) (A B:Nat→Fin p):cyc n A B i=cv (padz n A) (padz n B) i+cv (padz n A) (padz n B) (i+n):=by
 have e1:cv (padz n A) (padz n B) i=sm (i+1) fun j=>A j*B (i-j):=sm_congr fun j hj=>by rw [zNJ (by omega),zNJ (by omega)]
 have e2:cv (padz n A) (padz n B) (i+n)=sm (n-(i+1)) fun k=>A (i+1+k)*B (n-1-k):=by
  unfold cv
  rw [show i+n+1=(i+1)+((n-(i+1))+(i+1)) by omega,sm_split (i+1),sm_split (n-(i+1))]
  have z1:(sm (i+1) fun j=>padz n A j*padz n B (i+n-j))=0:=by
   rw [←sm_const0 (i+1)]
   exact sm_congr fun j hj=>by rw [zNK (A:=B) (by omega)];grind
  have z2:(sm (i+1) fun j=>padz n A (i+1+(n-(i+1)+j))*padz n B (i+n-(i+1+(n-(i+1)+j))))=0:=by
   rw [←sm_const0 (i+1)]
   exact sm_congr fun j hj=>by rw [zNK (A:=A) (by omega)];grind
  rw [z1,z2]
  have:(sm (n-(i+1)) fun k=>padz n A (i+1+k)*padz n B (i+n-(i+1+k)))=sm (n-(i+1)) fun k=>A (i+1+k)*B (n-1-k):=sm_congr fun k hk=>by
   rw [zNJ (by omega),zNJ (by omega),show i+n-(i+1+k)=n-1-k by omega]
  rw [this];grind
 rw [e1,e2]
 unfold cyc
 obtain ⟨m,rfl⟩: ∃m,n=(i+1)+m:=⟨n-(i+1),by omega⟩
 rw [sm_split]
 congr 1
 ·exact sm_congr fun j hj=>by rw [show i+(i+1+m-j)=(i-j)+(i+1+m) by omega,Nat.add_mod_right,Nat.mod_eq_of_lt (by omega)]
 ·rw [show i+1+m-(i+1)=m by omega]
  exact sm_congr fun k hk=>by rw [show i+(i+1+m-(i+1+k))=i+1+m-1-k by omega,Nat.mod_eq_of_lt (by omega)]
end
end

section
/- Rows of lists: noughts behind, products place by place, sums round and round. -/
open Go.RowKit
open Alg
theorem zJ2 (k:IntKind) (xs ys:List Int):ints k (xs ++ ys)=ints k xs ++ ints k ys:=by simp [ints]
theorem zJ5 (k:IntKind) (m:Nat):List.replicate m (.int k 0)=ints k (List.replicate m 0):=by simp [ints]
theorem zNH {p:Nat} [NeZero p] {n N:Nat} (h:n≤N) (F:Nat→Fin p):lst n F ++ List.replicate (N-n) 0=lst N (padz n F):=by
 apply List.ext_getElem
 ·simp [lst,full];omega
 ·intro i h1 h2
  simp only [lst,full,List.length_append,List.length_map,List.length_range,List.length_replicate] at h1 h2
  by_cases hi:i<n
  ·rw [List.getElem_append_left (by simp [lst,full];exact hi)]
   simp only [lst,full,List.getElem_map,List.getElem_range,zNJ hi]
  ·rw [List.getElem_append_right (by simp [lst,full];omega)]
   simp only [lst,full,List.getElem_map,List.getElem_range,List.getElem_replicate,zNK (A:=F) (show n≤i by omega)]
   simp
def mrow {p:Nat} [NeZero p] (N:Nat) (X Y:Nat→Fin p) (i:Nat):List Int:=lst N fun j=>if j<i then X j*Y j else X j
theorem zMa {p:Nat} [NeZero p] (N:Nat) (X Y:Nat→Fin p):lst N X=mrow N X Y 0:=zKW fun i _=>by rw [if_neg (by omega)]
theorem zLX {p:Nat} [NeZero p] (N:Nat) (X Y:Nat→Fin p):mrow N X Y N=lst N fun j=>X j*Y j:=zKW fun i hi=>by rw [if_pos hi]
theorem zLZ {p:Nat} [NeZero p] {N i:Nat} {X Y:Nat→Fin p} (hi:i<N):(mrow N X Y i).set i (((X i*Y i:Fin p).val:Nat):Int)=mrow N X Y (i+1):=by
 unfold mrow lst full
 apply List.ext_getElem
 ·simp
 ·intro j hj hj'
  simp at hj'
  simp only [List.getElem_set,List.getElem_map,List.getElem_range]
  by_cases e:i=j
  ·subst e;rw [if_pos rfl,if_pos (by omega)]
  ·rw [if_neg e]
   by_cases h:j<i
   ·rw [if_pos h,if_pos (by omega)]
   ·rw [if_neg h,if_neg (by omega)]
theorem zLW {p:Nat} [NeZero p] {N i:Nat} {X Y:Nat→Fin p} (hi:i<N):(mrow N X Y i).getD i 0=((X i).val:Int):=by
 unfold mrow
 rw [zKY hi,if_neg (by omega)]
def frow {p:Nat} [NeZero p] (n:Nat) (C:Nat→Fin p) (i:Nat):List Int:=lst n fun j=>(if j<i then C j else 0)+(if j+n<i then C (j+n) else 0)
theorem zHJ {p:Nat} [NeZero p] (n:Nat) (C:Nat→Fin p):frow n C 0=List.replicate n 0:=by
 unfold frow lst full
 rw [List.map_congr_left (g:=fun _=>(0:Int)) (fun i _=>by simp)]
 simp [List.map_const']
theorem zHF {p:Nat} [NeZero p] {n i:Nat} {C:Nat→Fin p} (hn:0<n) (hi:i<2*n):(frow n C i).getD (i%n) 0=(((if i<n then 0 else C (i-n):Fin p)).val:Int):=by
 unfold frow
 rw [zKY (Nat.mod_lt _ hn)]
 by_cases h:i<n
 ·rw [Nat.mod_eq_of_lt h,if_neg (by omega),if_neg (by omega),if_pos h];simp
 ·rw [Nat.mod_eq_sub_mod (by omega),Nat.mod_eq_of_lt (by omega),if_pos (by omega),if_neg (by omega),if_neg h];simp
theorem zHI {p:Nat} [NeZero p] {n i:Nat} {C:Nat→Fin p} (hn:0<n) (hi:i<2*n):(frow n C i).set (i%n) ((((if i<n then 0 else C (i-n))+C i:Fin p).val:Nat):Int)=frow n C (i+1):=by
 unfold frow lst full
 apply List.ext_getElem
 ·simp
 ·intro j hj hj'
  simp at hj'
  simp only [List.getElem_set,List.getElem_map,List.getElem_range]
  by_cases h:i<n
  ·rw [Nat.mod_eq_of_lt h,if_pos h]
   by_cases e:i=j
   ·subst e;rw [if_pos rfl,if_pos (by omega),if_neg (by omega)];congr 2;grind
   ·rw [if_neg e]
    rw [if_neg (show ¬j+n<i by omega),if_neg (show ¬j+n<i+1 by omega)]
    by_cases h2:j<i
    ·rw [if_pos h2,if_pos (by omega)]
    ·rw [if_neg h2,if_neg (by omega)]
  ·rw [Nat.mod_eq_sub_mod (by omega),Nat.mod_eq_of_lt (by omega),if_neg h]
   by_cases e:i-n=j
   ·subst e;rw [if_pos rfl,if_pos (by omega),if_pos (by omega),show i-n+n=i by omega]
   ·rw [if_neg e,if_pos (by omega),if_pos (show j<i+1 by omega)]
    by_cases h2:j+n<i
    ·rw [if_pos h2,if_pos (by omega)]
    ·rw [if_neg h2,if_neg (by omega)]
theorem zHG {p:Nat} [NeZero p] {n N:Nat} (hn:0<n) (hN:2*n≤N+1) (A B:Nat→Fin p):frow n (cyc N (padz n A) (padz n B)) (2*n-1)=lst n (cyc n A B):=zKW fun j hj=>by
 have hlin: ∀i,i<N→i<2*n-1→cyc N (padz n A) (padz n B) i=cv (padz n A) (padz n B) i:=fun i hi _=>zFv hi (fun j h=>zNK h) (fun j h=>zNK h) (by omega)
 rw [zFu hj,if_pos (by omega),hlin j (by omega) (by omega)]
 by_cases h:j+n<2*n-1
 ·rw [if_pos h,hlin (j+n) (by omega) h]
 ·rw [if_neg h]
  have:cv (padz n A) (padz n B) (j+n)=0:=by
   unfold cv
   rw [←sm_const0 (j+n+1)]
   refine sm_congr fun i hi=>?_
   rcases Nat.lt_or_ge i n with h1|h1
   ·rw [zNK (A:=B) (by omega)];grind
   ·rw [zNK (A:=A) h1];grind
  rw [this]
theorem zN9 {w:World} {B G n c:Nat} {L:List Int} (h:OwnU w B (.slice (some ⟨G,0,none⟩) n c) n L) (o:Nat) (ho:o<n):w.cell? ⟨G,o,none⟩=some (.int .u64 (L.getD o 0))∧w.frozen? ⟨G,o,none⟩=false∧B≤G:=⟨(h.set o ho 0).2.1,(h.set o ho 0).2.2.1,(h.set o ho 0).2.2.2⟩
theorem zRt {w:World} {b o:Nat} {L:List Int} (hc: ∀j,j<L.length→w.cell? ⟨b,o+j,none⟩=some (.int .u64 (L.getD j 0))): ∀j u,(ints .u64 L)[j]? =some u→w.cell? ((⟨b,o,none⟩:Addr).add j)=some u:=by
 intro j u hu
 have hj:j<L.length:=by
  rcases Nat.lt_or_ge j L.length with h|h
  ·exact h
  ·rw [List.getElem?_eq_none (by rw [zJ3];exact h)] at hu;cases hu
 have h3:u= .int .u64 (L.getD j 0):=by
  simp [ints,List.getElem?_eq_getElem hj] at hu
  rw [←hu,List.getD_eq_getElem?_getD,List.getElem?_eq_getElem hj];rfl
 rw [h3,←hc j hj,zBa]
theorem zJ4 (L:List Int): ∀u ∈ ints .u64 L,u.oneCell'=true:=fun u hu=>by
 obtain ⟨x,_,rfl⟩:=List.mem_map.1 hu
 rfl
end

section
/- The transform of any length, by pairs: it is that of the sum. -/
open Alg
def tri:Nat→Nat
 | 0=>0
 | m+1=>tri m+m
theorem zVq (j k:Nat):tri (j+k)=tri j+tri k+j*k:=by
 induction k with
 | zero=>rw [Nat.mul_zero];rfl
 | succ k ih=>rw [←Nat.add_assoc,tri,ih,tri,Nat.mul_add];omega
theorem zVu (m:Nat):2*tri m=m*(m-1):=by
 induction m with
 | zero=>rfl
 | succ m ih=>
  rw [tri,Nat.mul_add,ih,show m+1-1=m by omega]
  cases m with
  | zero=>rfl
  | succ m=>rw [show m+1-1=m by omega,Nat.mul_comm (m+1) m,←Nat.add_mul]
theorem zVr (m:Nat):m*(m-1)/2=tri m:=by rw [←zVu];omega
section
variable {p:Nat} [NeZero p]
theorem zTT (n:Nat) (F:Nat→Fin p):sm n (fun j=>F (n-1-j))=sm n F:=
 sm_perm n (fun j=>n-1-j) F (fun i hi=>by omega) fun i j hi hj h=>by omega
theorem zEf {w v:Fin p} {n:Nat} (hv:w*v=1) (x:Nat→Fin p) {A B:Nat→Fin p}
  (hA: ∀i,i<n→A i=pw v (tri (n-1-i))*x (n-1-i)) (hA0: ∀i,n≤i→A i=0) (hB: ∀k,k<2*n-1→B k=pw w (tri k)) (k:Nat) (hk:k<n):
  pw v (tri k)*cv A B (n-1+k)=dft w n x k:=by
 have hvn: ∀m,pw v m*pw w m=1:=fun m=>by rw [←mul_pw,show v*w=w*v by grind,hv,one_pw]
 have e1:cv A B (n-1+k)=sm n fun i=>A i*B (n-1+k-i):=by
  unfold cv
  rw [show n-1+k+1=n+k by omega,sm_split]
  have:(sm k fun i=>A (n+i)*B (n-1+k-(n+i)))=0:=by
   rw [←sm_const0 k]
   exact sm_congr fun i _=>by rw [hA0 _ (by omega)];grind
  rw [this];grind
 rw [e1,←zTT,←sm_mul]
 refine sm_congr fun j hj=>?_
 rw [hA _ (by omega),hB _ (by omega),show n-1-(n-1-j)=j by omega,show n-1+k-(n-1-j)=k+j by omega,zVq,pw_add,pw_add]
 have h1:=hvn (tri k)
 have h2:=hvn (tri j)
 generalize pw v (tri k)=a1 at *
 generalize pw w (tri k)=b1 at *
 generalize pw v (tri j)=a2 at *
 generalize pw w (tri j)=b2 at *
 have:a1*(a2*x j*(b1*b2*pw w (k*j)))=(a1*b1)*(a2*b2)*(pw w (k*j)*x j):=by grind
 rw [this,h1,h2];grind
end
end

section
/- The transform of a prime length, by a generator's powers: it is that of the sum. -/
open Alg
def gp (n:Nat) [NeZero n] (g:Nat) (e:Nat):Nat:=(pw (zt n (g:Int)) e).val
theorem zI8 (n:Nat) [NeZero n] (g e:Nat):((gp n g e:Nat):Int)=(g:Int)^e%(n:Int):=by
 unfold gp;rw [←zt_pow,zt_val]
theorem zI9 (n:Nat) [NeZero n] (g e:Nat):gp n g e<n:=(pw (zt n (g:Int)) e).isLt
section
variable {p:Nat} [NeZero p]
theorem zTO (n:Nat) (F:Nat→Fin p):sm (n+1) F=F 0+sm n (fun i=>F (i+1)):=by
 rw [Nat.add_comm n 1,sm_split,sm_succ,sm_zero]
 have:(sm n fun i=>F (1+i))=sm n fun i=>F (i+1):=sm_congr fun i _=>by rw [Nat.add_comm]
 rw [this];grind
theorem zPt {w:Fin p} {n a b:Nat} (h:pw w n=1) (e:a%n=b%n):pw w a=pw w b:=by rw [pw_mod h a,e,←pw_mod h b]
theorem zRa (w:Fin p) (n:Nat) (x:Nat→Fin p):dft w n x 0=sm n x:=by
 unfold dft
 exact sm_congr fun j _=>by rw [Nat.zero_mul,pw_zero];grind
variable {n:Nat} [NeZero n]
theorem zIA {g:Nat} (hn:Prime n) (hg:Ord (zt n (g:Int)) (n-1)) (e:Nat):0<gp n g e:=by
 have hne:zt n (g:Int)≠0:=fun h0=>by
  have h1:=hg.2.1
  have:=hn.1
  rw [h0,show n-1=(n-2)+1 by omega,pw_succ] at h1
  exact one_ne_zero hn.1 (by rw [←h1];grind)
 have h:=pw_ne_zero hn hne e
 rcases Nat.eq_zero_or_pos (gp n g e) with h0|h0
 ·exact absurd (Fin.ext (by simpa [gp] using h0)) h
 ·exact h0
theorem zQZ {w:Fin p} {g:Nat} (hn:Prime n) (h3:3≤n) (hg:Ord (zt n (g:Int)) (n-1)) (hw:pw w n=1) (x:Nat→Fin p) {A B:Nat→Fin p} {E:Nat→Nat}
  (hE: ∀m,m<n-1→pw (zt n (g:Int)) (E m)*pw (zt n (g:Int)) m=1)
  (hA: ∀q,q<n-1→A q=x (gp n g q)) (hB: ∀q,q<n-1→B q=pw w (gp n g (E q))) (m:Nat) (hm:m<n-1):
  x 0+cyc (n-1) A B m=dft w n x (gp n g (E m)):=by
 have e1:dft w n x (gp n g (E m))=x 0+sm (n-1) fun j=>pw w (gp n g (E m)*(j+1))*x (j+1):=by
  unfold dft
  obtain ⟨k,rfl⟩: ∃k,n=k+1:=⟨n-1,by omega⟩
  rw [zTO,Nat.mul_zero,pw_zero,show k+1-1=k by omega];grind
 have e2:(sm (n-1) fun j=>pw w (gp n g (E m)*(j+1))*x (j+1))=sm (n-1) fun q=>pw w (gp n g (E m)*gp n g q)*x (gp n g q):=by
  rw [←sm_perm (n-1) (fun q=>gp n g q-1) (fun j=>pw w (gp n g (E m)*(j+1))*x (j+1))]
  ·refine sm_congr fun q hq=>?_
   have:=zIA hn hg q
   rw [show gp n g q-1+1=gp n g q by omega]
  ·intro i hi
   have:=zIA hn hg i
   have:=zI9 n g i
   omega
  ·intro i j hi hj h
   have h1:=zIA hn hg i
   have h2:=zIA hn hg j
   refine hg.inj hi hj (Fin.ext ?_)
   show gp n g i=gp n g j
   have h':gp n g i-1=gp n g j-1:=h
   omega
 rw [e1,e2]
 congr 1
 unfold cyc
 refine sm_congr fun q hq=>?_
 have hmod:(m+(n-1-q))%(n-1)<n-1:=Nat.mod_lt _ (by omega)
 rw [hA q hq,hB _ hmod]
 have hz:pw w (gp n g (E ((m+(n-1-q))%(n-1))))=pw w (gp n g (E m)*gp n g q):=by
  refine zPt hw ?_
  have h1:(zt n (gp n g (E ((m+(n-1-q))%(n-1))):Int))=zt n ((gp n g (E m)*gp n g q:Nat):Int):=by
   rw [Int.natCast_mul,zt_mul]
   show zt n ((pw (zt n (g:Int)) (E _)).val:Int)=zt n ((pw (zt n (g:Int)) (E m)).val:Int)*zt n ((pw (zt n (g:Int)) q).val:Int)
   rw [zt_of_val,zt_of_val,zt_of_val]
   have hu: ∀e,e<n-1→ ∀a b:Fin n,a*pw (zt n (g:Int)) e=1→b*pw (zt n (g:Int)) e=1→a=b:=fun e _ a b ha hb=>by
    have h1:a*pw (zt n (g:Int)) e*b=b:=by rw [ha];grind
    have h2:b*pw (zt n (g:Int)) e*a=a:=by rw [hb];grind
    rw [←h1,←h2];grind
   refine hu _ hmod _ _ (hE _ hmod) ?_
   rw [←pw_mod hg.2.1,pw_add]
   have k1:=hE m hm
   have k2:pw (zt n (g:Int)) q*pw (zt n (g:Int)) (n-1-q)=1:=by rw [←pw_add,show q+(n-1-q)=n-1 by omega];exact hg.2.1
   generalize pw (zt n (g:Int)) (E m)=a1 at *
   generalize pw (zt n (g:Int)) m=a2 at *
   generalize pw (zt n (g:Int)) q=a3 at *
   generalize pw (zt n (g:Int)) (n-1-q)=a4 at *
   have:a1*a3*(a2*a4)=(a1*a2)*(a3*a4):=by grind
   rw [this,k1,k2];grind
  have h2:=zt_eq.1 h1
  rw [←Int.natCast_emod,←Int.natCast_emod] at h2
  exact Int.ofNat.inj h2
 rw [hz];grind
theorem zQY {g:Nat} (hn:Prime n) (hg:Ord (zt n (g:Int)) (n-1)) {E:Nat→Nat}
  (hE: ∀m,m<n-1→pw (zt n (g:Int)) (E m)*pw (zt n (g:Int)) m=1) (i:Nat) (h0:0<i) (hi:i<n): ∃m,m<n-1∧gp n g (E m)=i:=by
 have hne:zt n (i:Int)≠0:=fun h=>by
  rw [←zt_zero,zt_eq,Int.emod_eq_of_lt (by omega) (by omega)] at h
  simp at h;omega
 obtain ⟨y,hy⟩:=inv_exists hn _ hne
 have hy0:y≠0:=unit_ne_zero hn.1 (b:=zt n (i:Int)) (by rw [←hy];grind)
 obtain ⟨m,hm,he⟩:=hg.all hn.1 y hy0
 refine ⟨m,hm,?_⟩
 have h1:=hE m hm
 rw [he] at h1
 have:pw (zt n (g:Int)) (E m)=zt n (i:Int):=by
  have h2:pw (zt n (g:Int)) (E m)*y*zt n (i:Int)=zt n (i:Int):=by rw [h1];grind
  have h3:pw (zt n (g:Int)) (E m)*y*zt n (i:Int)=pw (zt n (g:Int)) (E m)*(zt n (i:Int)*y):=by grind
  rw [←h2,h3,hy];grind
 unfold gp
 rw [this]
 have:=zt_val (p:=n) (i:Int)
 rw [Int.emod_eq_of_lt (by omega) (by omega)] at this
 omega
end
end
end Go.Proofs.YtmalmijdjhkklaaGreat
