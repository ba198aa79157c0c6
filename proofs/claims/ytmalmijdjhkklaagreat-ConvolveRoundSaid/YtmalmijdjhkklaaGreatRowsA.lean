/- Rows of the call's own: one beside another. -/
import Derived.Test.YtmalmijdjhkklaaGreatW25
import Derived.OneCell
set_option linter.unusedVariables false
set_option linter.unusedSimpArgs false
namespace Go.Proofs.YtmalmijdjhkklaaGreat
open Go.RowKit
theorem zN7 {w:World} {B G G' n c o:Nat} {L:List Int} (h:OwnU w B (.slice (some ⟨G,0,none⟩) n c) n L) (hne:G≠G') (u:Value):OwnU (w.setCell ⟨G',o,none⟩ u) B (.slice (some ⟨G,0,none⟩) n c) n L:=
 ownsRow_setCell_other h (by simp [Value.ownBlock,hne]) u
theorem zN4 (w:World) (B m:Nat) (L:List Int) (hl:L.length=m) (hB:B≤w.heap.size) (hm:m≤4294967296):OwnU (w.alloc (.cells (ints .u64 L).toArray 22)) B (.slice (some ⟨w.heap.size,0,none⟩) m m) m L:=by
 have h1:=World.ownsRow_lit (e:=22) (size:=1) w (ints .u64 L).toArray m hB (by unfold maxLen;omega) (by simp [ints,hl])
 unfold OwnU
 simpa using h1
theorem zVG (w:World) (m:Nat) (L M:List Int) (hl:L.length=m) (hl':M.length=m) (hm:m≤4294967296):
  OwnU (((w.alloc (.cells (ints .u64 L).toArray 22)).alloc (.cells (ints .u64 M).toArray 22)).drew) w.heap.size (.slice (some ⟨w.heap.size,0,none⟩) m m) m L∧
  OwnU (((w.alloc (.cells (ints .u64 L).toArray 22)).alloc (.cells (ints .u64 M).toArray 22)).drew) w.heap.size (.slice (some ⟨w.heap.size+1,0,none⟩) m m) m M∧
  Below w.heap.size w (((w.alloc (.cells (ints .u64 L).toArray 22)).alloc (.cells (ints .u64 M).toArray 22)).drew):=by
 have h1:=zN4 w w.heap.size m L hl (Nat.le_refl _) hm
 have h2:=zN4 (w.alloc (.cells (ints .u64 L).toArray 22)) w.heap.size m M hl' (by simp) hm
 have e:(w.alloc (.cells (ints .u64 L).toArray 22)).heap.size=w.heap.size+1:=by simp
 rw [e] at h2
 exact ⟨OwnU.drewN (World.ownsRow.alloc h1 _) 1,OwnU.drewN h2 1,below_drewN (((Below.refl _ _).alloc (Nat.le_refl _) _).alloc (by simp) _) 1⟩
end Go.Proofs.YtmalmijdjhkklaaGreat