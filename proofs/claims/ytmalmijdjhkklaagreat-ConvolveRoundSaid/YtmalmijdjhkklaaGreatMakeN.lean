/- make of numbers, as an equation for every world. (The kit's lemma on make, as the guide offers it.) -/
import Derived.Laws.MakeOwn
import Derived.Laws.Entries
import Derived.Test.YtmalmijdjhkklaaGreatW25
set_option linter.unusedVariables false
set_option linter.unusedSimpArgs false
namespace Go.Proofs.YtmalmijdjhkklaaGreat
theorem zS9 {P:Program} (t e:TypeId) (i:TypeInfo) (z:Value) (ht:P.underlying t=some (.slice e)) (hi:P.info? e=some i) (hz:i.zero=some z)
  (kl kc:IntKind) (n c:Nat) (hnc:n≤c) (hbytes:i.bytes*c≤281474976710656) (h63:c≤9223372036854775807) (w:World):
  (Instr.makeSlice t (.int kl (n:Int)) (.int kc (c:Int))).run P w= .ok (.slice (some ⟨w.heap.size,0,none⟩) n c) (w.alloc (.cells (madeCells z.cells (c*i.size)) e)):=by
 have hb:(i.bytes:Int)*(c:Int)≤281474976710656:=by
  have h:((i.bytes*c:Nat):Int)≤281474976710656:=by omega
  rwa [Int.natCast_mul] at h
 have hr:=run_make (P:=P) w t e i z ht hi hz kl kc n c (by omega) (by omega) hb (by omega)
 simp only [Int.toNat_natCast] at hr
 exact hr
theorem zLl (m:Nat):madeCells #[Value.int .u64 0] m=(ints .u64 (List.replicate m 0)).toArray:=by
 apply Array.ext'
 rw [toList_madeCells_one]
 simp [ints]
theorem zLr (m:Nat) (hm:m≤4294967296): ∀w:World,(Instr.makeSlice 54 (.int .i64 (m:Int)) (.int .i64 (m:Int))).run Tryz.prog w= .ok (.slice (some ⟨w.heap.size,0,none⟩) m m) (w.alloc (.cells (ints .u64 (List.replicate m 0)).toArray 22)):=fun w=>by
 obtain ⟨i0,hi,hz0,hz1,hz2⟩:=info_parts zJt
 have h1:=zS9 (P:=Tryz.prog) 54 22 i0 (.int .u64 0) Tryz.underlying54 hi hz0 .i64 .i64 m m (Nat.le_refl _) (by rw [hz2];omega) (by omega) w
 rw [hz1,Nat.mul_one] at h1
 rw [h1,←zLl]
 rfl
end Go.Proofs.YtmalmijdjhkklaaGreat