/-
  No cell of these rows narrows 'for every input' (looked for: loops, veiled, ifaces, maps, wideKeys, modest, calm, conditions, laid).
  DERIVED. THE GIVEN ROWS OF THIS SEAT. 10 by the template 'for every input the law returns true; each argument reads behind the call as it read before'; 0 by the template 'total and deterministic' (their statements: YtjjfiidgjiekpaaGreatTotals.lean).
  GIVEN WITH THE SEED: the statements are not yours to turn. If you find one false, say at which input.
  Laid BY PROGRAM, IN A SANDBOX (cutbox-rows.mjs): the forced cells as the released guide's own fill.sh prints them over the translation 195596ed0c1838ce… (all of the seat's roots in one cut). By AI agents, Wed Nov 11 2026. No macro, syntax, notation, axiom, sorry.
-/
import Derived.Test.YtjjfiidgjiekpaaGreatChecked
import GoSem.Claim
import GoSem.ClaimJoined
import GoSem.ClaimMapViews
import Derived.JoinedTies
import Derived.KernelRfl
namespace Go.Proofs.YtjjfiidgjiekpaaGreat
/- THE CELL 'sum', in the pinned program and in every row, IS THE sha256 OF THE DUMP (.gsa) THAT YtjjfiidgjiekpaaGreatProg.lean LOADS. Nothing in Lean hashes anything: it is a label: what it is worth is what the hold of that sum in a sandbox is worth. -/
noncomputable def Tryz.pinned : Pinned := { name := "ytjjfiidgjiekpaagreat", sum := "195596ed0c1838cebf3d645f6c56094eacc6f7edae0ed258ebdf4e405c028b96", checked := Tryz.checked }
namespace Rows
def none {H : Type} : Left H := { results := [], args := [] }

/-- 'epicyclelaw23.GarnerCentres': WHATEVER THE INPUT: true; the input reads as it did. -/
def garnerCentresSpec : ChangeSpec := { name := "garnerCentres", fn := fun _ => fun
  | [d1, d2, d3] => { results := [.lit (.bool true)], args := [d1, d2, d3] }
  | _ => none }
def garnerCentresRow : OpenClaim := { program := "ytjjfiidgjiekpaagreat", sum := "195596ed0c1838cebf3d645f6c56094eacc6f7edae0ed258ebdf4e405c028b96", func := "epicycle/epicyclelaw23.GarnerCentres", spec := "garnerCentres", inPlace := ["math/bits.Add64", "math/bits.Sub64"], unfollowed := true, recurses := true, named := ["math/bits.divideError", "math/bits.overflowError"], apart := false }
def GarnerCentresSaid : Prop := garnerCentresRow.holds Tryz.pinned (OpenSpec.ofChange garnerCentresSpec)

/-- ITS FALSE NEIGHBOUR: 'it returns false'. Refute it at one input. -/
def garnerCentresWrong : ChangeSpec := { name := "garnerCentres", fn := fun _ => fun
  | [d1, d2, d3] => { results := [.lit (.bool false)], args := [d1, d2, d3] }
  | _ => none }
def GarnerCentresWrongFalsely : Prop := garnerCentresRow.holds Tryz.pinned (OpenSpec.ofChange garnerCentresWrong)

/-- 'epicyclelaw23.GarnerMakes': WHATEVER THE INPUT: true; the input reads as it did. -/
def garnerMakesSpec : ChangeSpec := { name := "garnerMakes", fn := fun _ => fun
  | [d1, d2, d3] => { results := [.lit (.bool true)], args := [d1, d2, d3] }
  | _ => none }
def garnerMakesRow : OpenClaim := { program := "ytjjfiidgjiekpaagreat", sum := "195596ed0c1838cebf3d645f6c56094eacc6f7edae0ed258ebdf4e405c028b96", func := "epicycle/epicyclelaw23.GarnerMakes", spec := "garnerMakes", inPlace := ["math/bits.Add64", "math/bits.Sub64"], unfollowed := true, recurses := true, named := ["math/bits.divideError", "math/bits.overflowError"], apart := false }
def GarnerMakesSaid : Prop := garnerMakesRow.holds Tryz.pinned (OpenSpec.ofChange garnerMakesSpec)

/-- ITS FALSE NEIGHBOUR: 'it returns false'. Refute it at one input. -/
def garnerMakesWrong : ChangeSpec := { name := "garnerMakes", fn := fun _ => fun
  | [d1, d2, d3] => { results := [.lit (.bool false)], args := [d1, d2, d3] }
  | _ => none }
def GarnerMakesWrongFalsely : Prop := garnerMakesRow.holds Tryz.pinned (OpenSpec.ofChange garnerMakesWrong)

/-- 'epicyclelaw23.GarnerJoins': WHATEVER THE INPUT: true; the input reads as it did. -/
def garnerJoinsSpec : ChangeSpec := { name := "garnerJoins", fn := fun _ => fun
  | [d1, d2, d3] => { results := [.lit (.bool true)], args := [d1, d2, d3] }
  | _ => none }
def garnerJoinsRow : OpenClaim := { program := "ytjjfiidgjiekpaagreat", sum := "195596ed0c1838cebf3d645f6c56094eacc6f7edae0ed258ebdf4e405c028b96", func := "epicycle/epicyclelaw23.GarnerJoins", spec := "garnerJoins", inPlace := ["math/bits.Add64", "math/bits.Sub64"], unfollowed := true, recurses := true, named := ["math/bits.divideError", "math/bits.overflowError"], apart := false }
def GarnerJoinsSaid : Prop := garnerJoinsRow.holds Tryz.pinned (OpenSpec.ofChange garnerJoinsSpec)

/-- ITS FALSE NEIGHBOUR: 'it returns false'. Refute it at one input. -/
def garnerJoinsWrong : ChangeSpec := { name := "garnerJoins", fn := fun _ => fun
  | [d1, d2, d3] => { results := [.lit (.bool false)], args := [d1, d2, d3] }
  | _ => none }
def GarnerJoinsWrongFalsely : Prop := garnerJoinsRow.holds Tryz.pinned (OpenSpec.ofChange garnerJoinsWrong)

/-- 'epicyclelaw23.GarnerBack': WHATEVER THE INPUT: true; the input reads as it did. -/
def garnerBackSpec : ChangeSpec := { name := "garnerBack", fn := fun _ => fun
  | [d1, d2] => { results := [.lit (.bool true)], args := [d1, d2] }
  | _ => none }
def garnerBackRow : OpenClaim := { program := "ytjjfiidgjiekpaagreat", sum := "195596ed0c1838cebf3d645f6c56094eacc6f7edae0ed258ebdf4e405c028b96", func := "epicycle/epicyclelaw23.GarnerBack", spec := "garnerBack", inPlace := ["math/bits.Add64", "math/bits.Sub64"], unfollowed := true, recurses := true, named := ["math/bits.divideError", "math/bits.overflowError"], apart := false }
def GarnerBackSaid : Prop := garnerBackRow.holds Tryz.pinned (OpenSpec.ofChange garnerBackSpec)

/-- ITS FALSE NEIGHBOUR: 'it returns false'. Refute it at one input. -/
def garnerBackWrong : ChangeSpec := { name := "garnerBack", fn := fun _ => fun
  | [d1, d2] => { results := [.lit (.bool false)], args := [d1, d2] }
  | _ => none }
def GarnerBackWrongFalsely : Prop := garnerBackRow.holds Tryz.pinned (OpenSpec.ofChange garnerBackWrong)

/-- 'epicyclelaw23.GarnerSums': WHATEVER THE INPUT: true; the input reads as it did. -/
def garnerSumsSpec : ChangeSpec := { name := "garnerSums", fn := fun _ => fun
  | [d1, d2, d3] => { results := [.lit (.bool true)], args := [d1, d2, d3] }
  | _ => none }
def garnerSumsRow : OpenClaim := { program := "ytjjfiidgjiekpaagreat", sum := "195596ed0c1838cebf3d645f6c56094eacc6f7edae0ed258ebdf4e405c028b96", func := "epicycle/epicyclelaw23.GarnerSums", spec := "garnerSums", inPlace := ["math/bits.Add64", "math/bits.Sub64"], unfollowed := true, recurses := true, named := ["math/bits.divideError", "math/bits.overflowError"], apart := false }
def GarnerSumsSaid : Prop := garnerSumsRow.holds Tryz.pinned (OpenSpec.ofChange garnerSumsSpec)

/-- ITS FALSE NEIGHBOUR: 'it returns false'. Refute it at one input. -/
def garnerSumsWrong : ChangeSpec := { name := "garnerSums", fn := fun _ => fun
  | [d1, d2, d3] => { results := [.lit (.bool false)], args := [d1, d2, d3] }
  | _ => none }
def GarnerSumsWrongFalsely : Prop := garnerSumsRow.holds Tryz.pinned (OpenSpec.ofChange garnerSumsWrong)

/-- 'epicyclelaw12.Radix2Folds': WHATEVER THE INPUT: true; the input reads as it did. -/
def radix2FoldsSpec : ChangeSpec := { name := "radix2Folds", fn := fun _ => fun
  | [d1, d2] => { results := [.lit (.bool true)], args := [d1, d2] }
  | _ => none }
def radix2FoldsRow : OpenClaim := { program := "ytjjfiidgjiekpaagreat", sum := "195596ed0c1838cebf3d645f6c56094eacc6f7edae0ed258ebdf4e405c028b96", func := "epicycle/epicyclelaw12.Radix2Folds", spec := "radix2Folds", inPlace := ["math/bits.Add64"], unfollowed := true, recurses := true, named := ["math/bits.divideError", "math/bits.overflowError"], apart := false }
def Radix2FoldsSaid : Prop := radix2FoldsRow.holds Tryz.pinned (OpenSpec.ofChange radix2FoldsSpec)

/-- ITS FALSE NEIGHBOUR: 'it returns false'. Refute it at one input. -/
def radix2FoldsWrong : ChangeSpec := { name := "radix2Folds", fn := fun _ => fun
  | [d1, d2] => { results := [.lit (.bool false)], args := [d1, d2] }
  | _ => none }
def Radix2FoldsWrongFalsely : Prop := radix2FoldsRow.holds Tryz.pinned (OpenSpec.ofChange radix2FoldsWrong)

/-- 'epicyclelaw24.ExactSigned': WHATEVER THE INPUT: true; the input reads as it did. -/
def exactSignedSpec : ChangeSpec := { name := "exactSigned", fn := fun _ => fun
  | [d1, d2, d3] => { results := [.lit (.bool true)], args := [d1, d2, d3] }
  | _ => none }
def exactSignedRow : OpenClaim := { program := "ytjjfiidgjiekpaagreat", sum := "195596ed0c1838cebf3d645f6c56094eacc6f7edae0ed258ebdf4e405c028b96", func := "epicycle/epicyclelaw24.ExactSigned", spec := "exactSigned", inPlace := ["math/bits.Add64", "math/bits.Sub64"], unfollowed := true, recurses := true, named := ["math/bits.divideError", "math/bits.overflowError"], apart := false }
def ExactSignedSaid : Prop := exactSignedRow.holds Tryz.pinned (OpenSpec.ofChange exactSignedSpec)

/-- ITS FALSE NEIGHBOUR: 'it returns false'. Refute it at one input. -/
def exactSignedWrong : ChangeSpec := { name := "exactSigned", fn := fun _ => fun
  | [d1, d2, d3] => { results := [.lit (.bool false)], args := [d1, d2, d3] }
  | _ => none }
def ExactSignedWrongFalsely : Prop := exactSignedRow.holds Tryz.pinned (OpenSpec.ofChange exactSignedWrong)

/-- 'epicyclelaw24.ExactBounds': WHATEVER THE INPUT: true; the input reads as it did. -/
def exactBoundsSpec : ChangeSpec := { name := "exactBounds", fn := fun _ => fun
  | [d1, d2, d3, d4, d5, d6] => { results := [.lit (.bool true)], args := [d1, d2, d3, d4, d5, d6] }
  | _ => none }
def exactBoundsRow : OpenClaim := { program := "ytjjfiidgjiekpaagreat", sum := "195596ed0c1838cebf3d645f6c56094eacc6f7edae0ed258ebdf4e405c028b96", func := "epicycle/epicyclelaw24.ExactBounds", spec := "exactBounds", inPlace := ["math/bits.Add64", "math/bits.Sub64"], unfollowed := true, recurses := true, named := ["math/bits.divideError", "math/bits.overflowError"], apart := false }
def ExactBoundsSaid : Prop := exactBoundsRow.holds Tryz.pinned (OpenSpec.ofChange exactBoundsSpec)

/-- ITS FALSE NEIGHBOUR: 'it returns false'. Refute it at one input. -/
def exactBoundsWrong : ChangeSpec := { name := "exactBounds", fn := fun _ => fun
  | [d1, d2, d3, d4, d5, d6] => { results := [.lit (.bool false)], args := [d1, d2, d3, d4, d5, d6] }
  | _ => none }
def ExactBoundsWrongFalsely : Prop := exactBoundsRow.holds Tryz.pinned (OpenSpec.ofChange exactBoundsWrong)

/-- 'epicyclelaw24.ExactUnsigned': WHATEVER THE INPUT: true; the input reads as it did. -/
def exactUnsignedSpec : ChangeSpec := { name := "exactUnsigned", fn := fun _ => fun
  | [d1, d2, d3] => { results := [.lit (.bool true)], args := [d1, d2, d3] }
  | _ => none }
def exactUnsignedRow : OpenClaim := { program := "ytjjfiidgjiekpaagreat", sum := "195596ed0c1838cebf3d645f6c56094eacc6f7edae0ed258ebdf4e405c028b96", func := "epicycle/epicyclelaw24.ExactUnsigned", spec := "exactUnsigned", inPlace := ["math/bits.Add64", "math/bits.Sub64"], unfollowed := true, recurses := true, named := ["math/bits.divideError", "math/bits.overflowError"], apart := false }
def ExactUnsignedSaid : Prop := exactUnsignedRow.holds Tryz.pinned (OpenSpec.ofChange exactUnsignedSpec)

/-- ITS FALSE NEIGHBOUR: 'it returns false'. Refute it at one input. -/
def exactUnsignedWrong : ChangeSpec := { name := "exactUnsigned", fn := fun _ => fun
  | [d1, d2, d3] => { results := [.lit (.bool false)], args := [d1, d2, d3] }
  | _ => none }
def ExactUnsignedWrongFalsely : Prop := exactUnsignedRow.holds Tryz.pinned (OpenSpec.ofChange exactUnsignedWrong)

/-- 'epicyclelaw24.ExactAlike': WHATEVER THE INPUT: true; the input reads as it did. -/
def exactAlikeSpec : ChangeSpec := { name := "exactAlike", fn := fun _ => fun
  | [d1, d2, d3] => { results := [.lit (.bool true)], args := [d1, d2, d3] }
  | _ => none }
def exactAlikeRow : OpenClaim := { program := "ytjjfiidgjiekpaagreat", sum := "195596ed0c1838cebf3d645f6c56094eacc6f7edae0ed258ebdf4e405c028b96", func := "epicycle/epicyclelaw24.ExactAlike", spec := "exactAlike", inPlace := ["math/bits.Add64", "math/bits.Sub64"], unfollowed := true, recurses := true, named := ["math/bits.divideError", "math/bits.overflowError"], apart := false }
def ExactAlikeSaid : Prop := exactAlikeRow.holds Tryz.pinned (OpenSpec.ofChange exactAlikeSpec)

/-- ITS FALSE NEIGHBOUR: 'it returns false'. Refute it at one input. -/
def exactAlikeWrong : ChangeSpec := { name := "exactAlike", fn := fun _ => fun
  | [d1, d2, d3] => { results := [.lit (.bool false)], args := [d1, d2, d3] }
  | _ => none }
def ExactAlikeWrongFalsely : Prop := exactAlikeRow.holds Tryz.pinned (OpenSpec.ofChange exactAlikeWrong)

/- THE SECOND FORM. 'bulk': how many values and letters a reading holds, each counted each time it is reached (what is shared counts as often as it is met; a slice's spare places count too). A statement '..UptoSaid' is the law's where the arguments, and the package variables that the reading takes, are together of bulk at most 1048576: NARROWER than '..Said'. Prove '..Said' where nothing that the law and all that it calls make is longer than what came in: it says more and counts as full. Else prove '..UptoSaid'. A law counts once. -/
mutual
def uptoBulk {H : Type} : DataW H → Nat
  | .lit (.string bytes) => bytes.length + 1
  | .lit _ => 1
  | .nil => 1
  | .ptr d => uptoBulk d + 1
  | .slice elems spare => uptoBulkAll elems + uptoBulkAll spare + 1
  | .agg parts => uptoBulkAll parts + 1
  | .iface _ d => uptoBulk d + 1
  | .map entries => uptoBulkEntries entries + 1
  | .held _ => 1
def uptoBulkAll {H : Type} : List (DataW H) → Nat
  | [] => 0
  | d :: r => uptoBulk d + uptoBulkAll r
def uptoBulkEntries {H : Type} : List (Lit × DataW H) → Nat
  | [] => 0
  | x :: r => uptoBulkEntry x + uptoBulkEntries r
def uptoBulkEntry {H : Type} : Lit × DataW H → Nat
  | (.string bytes, d) => bytes.length + uptoBulk d + 1
  | (_, d) => uptoBulk d + 1
 end
def uptoSmall : (H : Type) → List (DataW H) → Bool := fun _ ds => decide (uptoBulkAll ds ≤ 1048576)
def OpenSpec.upto (s : _root_.Go.ChangeSpec) : _root_.Go.OpenSpec := { _root_.Go.OpenSpec.ofChange s with cond := some uptoSmall }

/-- 'epicyclelaw23.GarnerCentres', WHERE WHAT IT READS IS OF BULK AT MOST 1048576: true; the input reads as it did. -/
def garnerCentresUptoRow : OpenClaim := { program := "ytjjfiidgjiekpaagreat", sum := "195596ed0c1838cebf3d645f6c56094eacc6f7edae0ed258ebdf4e405c028b96", func := "epicycle/epicyclelaw23.GarnerCentres", spec := "garnerCentres", inPlace := ["math/bits.Add64", "math/bits.Sub64"], unfollowed := true, recurses := true, named := ["math/bits.divideError", "math/bits.overflowError"], apart := false, narrowed := true }
def GarnerCentresUptoSaid : Prop := garnerCentresUptoRow.holds Tryz.pinned (OpenSpec.upto garnerCentresSpec)

/-- 'epicyclelaw23.GarnerMakes', WHERE WHAT IT READS IS OF BULK AT MOST 1048576: true; the input reads as it did. -/
def garnerMakesUptoRow : OpenClaim := { program := "ytjjfiidgjiekpaagreat", sum := "195596ed0c1838cebf3d645f6c56094eacc6f7edae0ed258ebdf4e405c028b96", func := "epicycle/epicyclelaw23.GarnerMakes", spec := "garnerMakes", inPlace := ["math/bits.Add64", "math/bits.Sub64"], unfollowed := true, recurses := true, named := ["math/bits.divideError", "math/bits.overflowError"], apart := false, narrowed := true }
def GarnerMakesUptoSaid : Prop := garnerMakesUptoRow.holds Tryz.pinned (OpenSpec.upto garnerMakesSpec)

/-- 'epicyclelaw23.GarnerJoins', WHERE WHAT IT READS IS OF BULK AT MOST 1048576: true; the input reads as it did. -/
def garnerJoinsUptoRow : OpenClaim := { program := "ytjjfiidgjiekpaagreat", sum := "195596ed0c1838cebf3d645f6c56094eacc6f7edae0ed258ebdf4e405c028b96", func := "epicycle/epicyclelaw23.GarnerJoins", spec := "garnerJoins", inPlace := ["math/bits.Add64", "math/bits.Sub64"], unfollowed := true, recurses := true, named := ["math/bits.divideError", "math/bits.overflowError"], apart := false, narrowed := true }
def GarnerJoinsUptoSaid : Prop := garnerJoinsUptoRow.holds Tryz.pinned (OpenSpec.upto garnerJoinsSpec)

/-- 'epicyclelaw23.GarnerBack', WHERE WHAT IT READS IS OF BULK AT MOST 1048576: true; the input reads as it did. -/
def garnerBackUptoRow : OpenClaim := { program := "ytjjfiidgjiekpaagreat", sum := "195596ed0c1838cebf3d645f6c56094eacc6f7edae0ed258ebdf4e405c028b96", func := "epicycle/epicyclelaw23.GarnerBack", spec := "garnerBack", inPlace := ["math/bits.Add64", "math/bits.Sub64"], unfollowed := true, recurses := true, named := ["math/bits.divideError", "math/bits.overflowError"], apart := false, narrowed := true }
def GarnerBackUptoSaid : Prop := garnerBackUptoRow.holds Tryz.pinned (OpenSpec.upto garnerBackSpec)

/-- 'epicyclelaw23.GarnerSums', WHERE WHAT IT READS IS OF BULK AT MOST 1048576: true; the input reads as it did. -/
def garnerSumsUptoRow : OpenClaim := { program := "ytjjfiidgjiekpaagreat", sum := "195596ed0c1838cebf3d645f6c56094eacc6f7edae0ed258ebdf4e405c028b96", func := "epicycle/epicyclelaw23.GarnerSums", spec := "garnerSums", inPlace := ["math/bits.Add64", "math/bits.Sub64"], unfollowed := true, recurses := true, named := ["math/bits.divideError", "math/bits.overflowError"], apart := false, narrowed := true }
def GarnerSumsUptoSaid : Prop := garnerSumsUptoRow.holds Tryz.pinned (OpenSpec.upto garnerSumsSpec)

/-- 'epicyclelaw12.Radix2Folds', WHERE WHAT IT READS IS OF BULK AT MOST 1048576: true; the input reads as it did. -/
def radix2FoldsUptoRow : OpenClaim := { program := "ytjjfiidgjiekpaagreat", sum := "195596ed0c1838cebf3d645f6c56094eacc6f7edae0ed258ebdf4e405c028b96", func := "epicycle/epicyclelaw12.Radix2Folds", spec := "radix2Folds", inPlace := ["math/bits.Add64"], unfollowed := true, recurses := true, named := ["math/bits.divideError", "math/bits.overflowError"], apart := false, narrowed := true }
def Radix2FoldsUptoSaid : Prop := radix2FoldsUptoRow.holds Tryz.pinned (OpenSpec.upto radix2FoldsSpec)

/-- 'epicyclelaw24.ExactSigned', WHERE WHAT IT READS IS OF BULK AT MOST 1048576: true; the input reads as it did. -/
def exactSignedUptoRow : OpenClaim := { program := "ytjjfiidgjiekpaagreat", sum := "195596ed0c1838cebf3d645f6c56094eacc6f7edae0ed258ebdf4e405c028b96", func := "epicycle/epicyclelaw24.ExactSigned", spec := "exactSigned", inPlace := ["math/bits.Add64", "math/bits.Sub64"], unfollowed := true, recurses := true, named := ["math/bits.divideError", "math/bits.overflowError"], apart := false, narrowed := true }
def ExactSignedUptoSaid : Prop := exactSignedUptoRow.holds Tryz.pinned (OpenSpec.upto exactSignedSpec)

/-- 'epicyclelaw24.ExactBounds', WHERE WHAT IT READS IS OF BULK AT MOST 1048576: true; the input reads as it did. -/
def exactBoundsUptoRow : OpenClaim := { program := "ytjjfiidgjiekpaagreat", sum := "195596ed0c1838cebf3d645f6c56094eacc6f7edae0ed258ebdf4e405c028b96", func := "epicycle/epicyclelaw24.ExactBounds", spec := "exactBounds", inPlace := ["math/bits.Add64", "math/bits.Sub64"], unfollowed := true, recurses := true, named := ["math/bits.divideError", "math/bits.overflowError"], apart := false, narrowed := true }
def ExactBoundsUptoSaid : Prop := exactBoundsUptoRow.holds Tryz.pinned (OpenSpec.upto exactBoundsSpec)

/-- 'epicyclelaw24.ExactUnsigned', WHERE WHAT IT READS IS OF BULK AT MOST 1048576: true; the input reads as it did. -/
def exactUnsignedUptoRow : OpenClaim := { program := "ytjjfiidgjiekpaagreat", sum := "195596ed0c1838cebf3d645f6c56094eacc6f7edae0ed258ebdf4e405c028b96", func := "epicycle/epicyclelaw24.ExactUnsigned", spec := "exactUnsigned", inPlace := ["math/bits.Add64", "math/bits.Sub64"], unfollowed := true, recurses := true, named := ["math/bits.divideError", "math/bits.overflowError"], apart := false, narrowed := true }
def ExactUnsignedUptoSaid : Prop := exactUnsignedUptoRow.holds Tryz.pinned (OpenSpec.upto exactUnsignedSpec)

/-- 'epicyclelaw24.ExactAlike', WHERE WHAT IT READS IS OF BULK AT MOST 1048576: true; the input reads as it did. -/
def exactAlikeUptoRow : OpenClaim := { program := "ytjjfiidgjiekpaagreat", sum := "195596ed0c1838cebf3d645f6c56094eacc6f7edae0ed258ebdf4e405c028b96", func := "epicycle/epicyclelaw24.ExactAlike", spec := "exactAlike", inPlace := ["math/bits.Add64", "math/bits.Sub64"], unfollowed := true, recurses := true, named := ["math/bits.divideError", "math/bits.overflowError"], apart := false, narrowed := true }
def ExactAlikeUptoSaid : Prop := exactAlikeUptoRow.holds Tryz.pinned (OpenSpec.upto exactAlikeSpec)

end Rows
end Go.Proofs.YtjjfiidgjiekpaaGreat
