/- The law's first check: alive, of layer 18. -/
import Derived.Test.YtmalmijdjhkklaaGreatWAl5Sm17
import Derived.Test.YtmalmijdjhkklaaGreatWPlOToOf18
set_option linter.unusedVariables false
set_option linter.unusedSimpArgs false
set_option linter.unusedSectionVars false
namespace Go.Proofs.YtmalmijdjhkklaaGreat
open Go.RowKit
open Alg
theorem zDQ:chE 17 16 (-1)=0:=by
 have h:=ch16
 unfold chP at h
 rw [if_pos zEh] at h
 unfold chE
 rw [if_pos zEh,h]
 decide
set_option maxHeartbeats 2000000 in
set_option maxRecDepth 100000 in
theorem zBj (w:World):Calls Tryz.prog 14 #[] w fun e w'=>e= .returned (.bool true)∧Below w.heap.size w w':=by
 have H2:Hid (∀W,Calls Tryz.prog 18 #[.agg #[.int .i64 2, .int .i64 16, .int .i64 0]] W fun e w'=>e= .returned (.int .i64 160)∧Below W.heap.size W w'):=Lib.hid (fun W=>by
  have h:=zNZ 2 16 0 (by omega) (by omega) (by omega) (by omega) (by omega) (by omega) W
  rw [if_pos can2,zEM] at h
  exact h)
 have H1:Hid (∀W,Calls Tryz.prog 18 #[.agg #[.int .i64 1, .int .i64 16, .int .i64 0]] W fun e w'=>e= .returned (.int .i64 208)∧Below W.heap.size W w'):=Lib.hid (fun W=>by
  have h:=zNZ 1 16 0 (by omega) (by omega) (by omega) (by omega) (by omega) (by omega) W
  rw [if_pos can1,zEL] at h
  exact h)
 go_enter Tryz.func14,Tryz.ntmps14
 go_wp2_with fail
 refine (zTY 17 3 zIr zM7 w).mono ?_
 rintro r w1 ⟨v,rfl,hC,hF,hB1⟩
 obtain ⟨q,hv⟩: ∃q,v= .pointer q:=by
  obtain ⟨b,_,_,_,_,_,e,_⟩:=hF
  exact ⟨_,e⟩
 subst hv
 have HCh:=Lib.hid (zEr hF 16 (-1) (by omega) (by omega))
 rw [ch16,zDQ] at HCh
 clear hC hF
 go_wp2_with fail
 refine HCh.out.mono ?_
 rintro r w2 ⟨rfl,hB2⟩
 have HB2:=Lib.hid (hB1.trans (hB2.mono hB1.size))
 have R3:=Lib.hid (lay1 w2 36 #[.int .i64 2, .int .i64 16, .int .i64 0])
 have HB3:=Lib.hid (HB2.out.trans (R3.out.2.mono HB2.out.size))
 clear hB1 hB2
 simp only [zD7]
 go_wp2_with (refine wpList_load_row rfl _ _ rfl _ rfl _ _ _ _ (R3.out.1) Tryz.underlying36 rfl (by exact zT5) ?_)
 refine (H2.out _).mono ?_
 rintro r w4 ⟨rfl,hB4⟩
 have HB4:=Lib.hid (HB3.out.trans (hB4.mono HB3.out.size))
 clear hB4
 go_wp2_with fail
 refine (H1.out _).mono ?_
 rintro r w5 ⟨rfl,hB5⟩
 have HB5:=Lib.hid (HB4.out.trans (hB5.mono HB4.out.size))
 clear hB5
 go_wp2
 go_ret
 exact ⟨rfl,HB5.out⟩
end Go.Proofs.YtmalmijdjhkklaaGreat