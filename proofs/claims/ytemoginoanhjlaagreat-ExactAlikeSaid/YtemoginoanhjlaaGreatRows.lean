/-
  No cell of these rows narrows 'for every input' (looked for: loops, veiled, ifaces, maps, wideKeys, modest, calm, conditions, laid).
  DERIVED. THE GIVEN ROWS OF THIS SEAT. 9 by the template 'for every input the law returns true; each argument reads behind the call as it read before'; 0 by the template 'total and deterministic' (their statements: YtemoginoanhjlaaGreatTotals.lean).
  GIVEN WITH THE SEED: the statements are not yours to turn. If you find one false, say at which input.
  Laid BY PROGRAM, IN A SANDBOX (cutbox-rows.mjs): the forced cells as the released guide's own fill.sh prints them over the translation 927cfb9f18b1c5c7… (all of the seat's roots in one cut). By AI agents, Wed Nov 11 2026. No macro, syntax, notation, axiom, sorry.
-/
import Derived.Test.YtemoginoanhjlaaGreatChecked
import GoSem.Claim
import GoSem.ClaimJoined
import GoSem.ClaimMapViews
import Derived.JoinedTies
import Derived.KernelRfl
namespace Go.Proofs.YtemoginoanhjlaaGreat
/- THE CELL 'sum', in the pinned program and in every row, IS THE sha256 OF THE DUMP (.gsa) THAT YtemoginoanhjlaaGreatProg.lean LOADS. Nothing in Lean hashes anything: it is a label: what it is worth is what the hold of that sum in a sandbox is worth. -/
noncomputable def Tryz.pinned : Pinned := { name := "ytemoginoanhjlaagreat", sum := "927cfb9f18b1c5c7cb58f317035291cdf0b2dda1e33722454b5a0363d9e891ce", checked := Tryz.checked }
namespace Rows
def none {H : Type} : Left H := { results := [], args := [] }

/-- 'epicyclelaw18.PlanFits': WHATEVER THE INPUT: true; the input reads as it did. -/
def planFitsSpec : ChangeSpec := { name := "planFits", fn := fun _ => fun
  | [d1, d2] => { results := [.lit (.bool true)], args := [d1, d2] }
  | _ => none }
def planFitsRow : OpenClaim := { program := "ytemoginoanhjlaagreat", sum := "927cfb9f18b1c5c7cb58f317035291cdf0b2dda1e33722454b5a0363d9e891ce", func := "epicycle/epicyclelaw18.PlanFits", spec := "planFits", inPlace := ["math/bits.Add64"], unfollowed := true, recurses := true, named := ["math/bits.divideError", "math/bits.overflowError"], plainKeys := false, apart := false }
def PlanFitsSaid : Prop := planFitsRow.holds Tryz.pinned (OpenSpec.ofChange planFitsSpec)

/-- ITS FALSE NEIGHBOUR: 'it returns false'. Refute it at one input. -/
def planFitsWrong : ChangeSpec := { name := "planFits", fn := fun _ => fun
  | [d1, d2] => { results := [.lit (.bool false)], args := [d1, d2] }
  | _ => none }
def PlanFitsWrongFalsely : Prop := planFitsRow.holds Tryz.pinned (OpenSpec.ofChange planFitsWrong)

/-- 'epicyclelaw18.PlanAll': WHATEVER THE INPUT: true; the input reads as it did. -/
def planAllSpec : ChangeSpec := { name := "planAll", fn := fun _ => fun
  | [d1, d2, d3] => { results := [.lit (.bool true)], args := [d1, d2, d3] }
  | _ => none }
def planAllRow : OpenClaim := { program := "ytemoginoanhjlaagreat", sum := "927cfb9f18b1c5c7cb58f317035291cdf0b2dda1e33722454b5a0363d9e891ce", func := "epicycle/epicyclelaw18.PlanAll", spec := "planAll", inPlace := ["math/bits.Add64"], unfollowed := true, recurses := true, named := ["math/bits.divideError", "math/bits.overflowError"], plainKeys := false, apart := false }
def PlanAllSaid : Prop := planAllRow.holds Tryz.pinned (OpenSpec.ofChange planAllSpec)

/-- ITS FALSE NEIGHBOUR: 'it returns false'. Refute it at one input. -/
def planAllWrong : ChangeSpec := { name := "planAll", fn := fun _ => fun
  | [d1, d2, d3] => { results := [.lit (.bool false)], args := [d1, d2, d3] }
  | _ => none }
def PlanAllWrongFalsely : Prop := planAllRow.holds Tryz.pinned (OpenSpec.ofChange planAllWrong)

/-- 'epicyclelaw18.PlanChooses': WHATEVER THE INPUT: true; the input reads as it did. -/
def planChoosesSpec : ChangeSpec := { name := "planChooses", fn := fun _ => fun
  | [d1, d2, d3] => { results := [.lit (.bool true)], args := [d1, d2, d3] }
  | _ => none }
def planChoosesRow : OpenClaim := { program := "ytemoginoanhjlaagreat", sum := "927cfb9f18b1c5c7cb58f317035291cdf0b2dda1e33722454b5a0363d9e891ce", func := "epicycle/epicyclelaw18.PlanChooses", spec := "planChooses", inPlace := ["math/bits.Add64"], unfollowed := true, recurses := true, named := ["math/bits.divideError", "math/bits.overflowError"], plainKeys := false, apart := false }
def PlanChoosesSaid : Prop := planChoosesRow.holds Tryz.pinned (OpenSpec.ofChange planChoosesSpec)

/-- ITS FALSE NEIGHBOUR: 'it returns false'. Refute it at one input. -/
def planChoosesWrong : ChangeSpec := { name := "planChooses", fn := fun _ => fun
  | [d1, d2, d3] => { results := [.lit (.bool false)], args := [d1, d2, d3] }
  | _ => none }
def PlanChoosesWrongFalsely : Prop := planChoosesRow.holds Tryz.pinned (OpenSpec.ofChange planChoosesWrong)

/-- 'epicyclelaw24.ExactSigned': WHATEVER THE INPUT: true; the input reads as it did. -/
def exactSignedSpec : ChangeSpec := { name := "exactSigned", fn := fun _ => fun
  | [d1, d2, d3] => { results := [.lit (.bool true)], args := [d1, d2, d3] }
  | _ => none }
def exactSignedRow : OpenClaim := { program := "ytemoginoanhjlaagreat", sum := "927cfb9f18b1c5c7cb58f317035291cdf0b2dda1e33722454b5a0363d9e891ce", func := "epicycle/epicyclelaw24.ExactSigned", spec := "exactSigned", inPlace := ["math/bits.Add64", "math/bits.Sub64"], unfollowed := true, recurses := true, named := ["math/bits.divideError", "math/bits.overflowError"], plainKeys := false, apart := false }
def ExactSignedSaid : Prop := exactSignedRow.holds Tryz.pinned (OpenSpec.ofChange exactSignedSpec)

/-- ITS FALSE NEIGHBOUR: 'it returns false'. Refute it at one input. -/
def exactSignedWrong : ChangeSpec := { name := "exactSigned", fn := fun _ => fun
  | [d1, d2, d3] => { results := [.lit (.bool false)], args := [d1, d2, d3] }
  | _ => none }
def ExactSignedWrongFalsely : Prop := exactSignedRow.holds Tryz.pinned (OpenSpec.ofChange exactSignedWrong)

/-- 'epicyclelaw24.ExactBounds': WHATEVER THE INPUT: true; the input reads as it did. -/
def exactBoundsSpec : ChangeSpec := { name := "exactBounds", fn := fun _ => fun
  | [d1, d2, d3, d4, d5, d6] => { results := [.lit (.bool true)], args := [d1, d2, d3, d4, d5, d6] }
  | _ => none }
def exactBoundsRow : OpenClaim := { program := "ytemoginoanhjlaagreat", sum := "927cfb9f18b1c5c7cb58f317035291cdf0b2dda1e33722454b5a0363d9e891ce", func := "epicycle/epicyclelaw24.ExactBounds", spec := "exactBounds", inPlace := ["math/bits.Add64", "math/bits.Sub64"], unfollowed := true, recurses := true, named := ["math/bits.divideError", "math/bits.overflowError"], plainKeys := false, apart := false }
def ExactBoundsSaid : Prop := exactBoundsRow.holds Tryz.pinned (OpenSpec.ofChange exactBoundsSpec)

/-- ITS FALSE NEIGHBOUR: 'it returns false'. Refute it at one input. -/
def exactBoundsWrong : ChangeSpec := { name := "exactBounds", fn := fun _ => fun
  | [d1, d2, d3, d4, d5, d6] => { results := [.lit (.bool false)], args := [d1, d2, d3, d4, d5, d6] }
  | _ => none }
def ExactBoundsWrongFalsely : Prop := exactBoundsRow.holds Tryz.pinned (OpenSpec.ofChange exactBoundsWrong)

/-- 'epicyclelaw24.ExactUnsigned': WHATEVER THE INPUT: true; the input reads as it did. -/
def exactUnsignedSpec : ChangeSpec := { name := "exactUnsigned", fn := fun _ => fun
  | [d1, d2, d3] => { results := [.lit (.bool true)], args := [d1, d2, d3] }
  | _ => none }
def exactUnsignedRow : OpenClaim := { program := "ytemoginoanhjlaagreat", sum := "927cfb9f18b1c5c7cb58f317035291cdf0b2dda1e33722454b5a0363d9e891ce", func := "epicycle/epicyclelaw24.ExactUnsigned", spec := "exactUnsigned", inPlace := ["math/bits.Add64", "math/bits.Sub64"], unfollowed := true, recurses := true, named := ["math/bits.divideError", "math/bits.overflowError"], plainKeys := false, apart := false }
def ExactUnsignedSaid : Prop := exactUnsignedRow.holds Tryz.pinned (OpenSpec.ofChange exactUnsignedSpec)

/-- ITS FALSE NEIGHBOUR: 'it returns false'. Refute it at one input. -/
def exactUnsignedWrong : ChangeSpec := { name := "exactUnsigned", fn := fun _ => fun
  | [d1, d2, d3] => { results := [.lit (.bool false)], args := [d1, d2, d3] }
  | _ => none }
def ExactUnsignedWrongFalsely : Prop := exactUnsignedRow.holds Tryz.pinned (OpenSpec.ofChange exactUnsignedWrong)

/-- 'epicyclelaw24.ExactAlike': WHATEVER THE INPUT: true; the input reads as it did. -/
def exactAlikeSpec : ChangeSpec := { name := "exactAlike", fn := fun _ => fun
  | [d1, d2, d3] => { results := [.lit (.bool true)], args := [d1, d2, d3] }
  | _ => none }
def exactAlikeRow : OpenClaim := { program := "ytemoginoanhjlaagreat", sum := "927cfb9f18b1c5c7cb58f317035291cdf0b2dda1e33722454b5a0363d9e891ce", func := "epicycle/epicyclelaw24.ExactAlike", spec := "exactAlike", inPlace := ["math/bits.Add64", "math/bits.Sub64"], unfollowed := true, recurses := true, named := ["math/bits.divideError", "math/bits.overflowError"], plainKeys := false, apart := false }
def ExactAlikeSaid : Prop := exactAlikeRow.holds Tryz.pinned (OpenSpec.ofChange exactAlikeSpec)

/-- ITS FALSE NEIGHBOUR: 'it returns false'. Refute it at one input. -/
def exactAlikeWrong : ChangeSpec := { name := "exactAlike", fn := fun _ => fun
  | [d1, d2, d3] => { results := [.lit (.bool false)], args := [d1, d2, d3] }
  | _ => none }
def ExactAlikeWrongFalsely : Prop := exactAlikeRow.holds Tryz.pinned (OpenSpec.ofChange exactAlikeWrong)

/-- 'epicyclelaw18.PlanRuns': WHATEVER THE INPUT: true; the input reads as it did. -/
def planRunsSpec : ChangeSpec := { name := "planRuns", fn := fun _ => fun
  | [d1, d2, d3, d4] => { results := [.lit (.bool true)], args := [d1, d2, d3, d4] }
  | _ => none }
def planRunsRow : OpenClaim := { program := "ytemoginoanhjlaagreat", sum := "927cfb9f18b1c5c7cb58f317035291cdf0b2dda1e33722454b5a0363d9e891ce", func := "epicycle/epicyclelaw18.PlanRuns", spec := "planRuns", inPlace := ["math/bits.Add64"], unfollowed := true, recurses := true, named := ["math/bits.divideError", "math/bits.overflowError"], plainKeys := false, apart := false }
def PlanRunsSaid : Prop := planRunsRow.holds Tryz.pinned (OpenSpec.ofChange planRunsSpec)

/-- ITS FALSE NEIGHBOUR: 'it returns false'. Refute it at one input. -/
def planRunsWrong : ChangeSpec := { name := "planRuns", fn := fun _ => fun
  | [d1, d2, d3, d4] => { results := [.lit (.bool false)], args := [d1, d2, d3, d4] }
  | _ => none }
def PlanRunsWrongFalsely : Prop := planRunsRow.holds Tryz.pinned (OpenSpec.ofChange planRunsWrong)

/-- 'epicyclelaw18.PlanSame': WHATEVER THE INPUT: true; the input reads as it did. -/
def planSameSpec : ChangeSpec := { name := "planSame", fn := fun _ => fun
  | [d1, d2, d3, d4, d5] => { results := [.lit (.bool true)], args := [d1, d2, d3, d4, d5] }
  | _ => none }
def planSameRow : OpenClaim := { program := "ytemoginoanhjlaagreat", sum := "927cfb9f18b1c5c7cb58f317035291cdf0b2dda1e33722454b5a0363d9e891ce", func := "epicycle/epicyclelaw18.PlanSame", spec := "planSame", inPlace := ["math/bits.Add64"], unfollowed := true, recurses := true, named := ["math/bits.divideError", "math/bits.overflowError"], plainKeys := false, apart := false }
def PlanSameSaid : Prop := planSameRow.holds Tryz.pinned (OpenSpec.ofChange planSameSpec)

/-- ITS FALSE NEIGHBOUR: 'it returns false'. Refute it at one input. -/
def planSameWrong : ChangeSpec := { name := "planSame", fn := fun _ => fun
  | [d1, d2, d3, d4, d5] => { results := [.lit (.bool false)], args := [d1, d2, d3, d4, d5] }
  | _ => none }
def PlanSameWrongFalsely : Prop := planSameRow.holds Tryz.pinned (OpenSpec.ofChange planSameWrong)

/- THE SECOND FORM. 'bulk': how many values and letters a reading holds, each counted each time it is reached (what is shared counts as often as it is met; a slice's spare places count too). A statement '..UptoSaid' is the law's where the arguments, and the package variables that the reading takes, are together of bulk at most 1048576: NARROWER than '..Said'. Prove '..Said' where nothing that the law and all that it calls make is longer than what came in: it says more and counts as full. Else prove '..UptoSaid'. A law counts once. -/
mutual
def uptoBulk {H : Type} : DataW H → Nat
  | .lit (.string bytes) => bytes.length + 1
  | .lit _ => 1
  | .nil => 1
  | .ptr d => uptoBulk d + 1
  | .slice elems spare => uptoBulkAll elems + uptoBulkAll spare + 1
  | .agg parts => uptoBulkAll parts + 1
  | .iface _ d => uptoBulk d + 1
  | .map entries => uptoBulkEntries entries + 1
  | .held _ => 1
def uptoBulkAll {H : Type} : List (DataW H) → Nat
  | [] => 0
  | d :: r => uptoBulk d + uptoBulkAll r
def uptoBulkEntries {H : Type} : List (Lit × DataW H) → Nat
  | [] => 0
  | x :: r => uptoBulkEntry x + uptoBulkEntries r
def uptoBulkEntry {H : Type} : Lit × DataW H → Nat
  | (.string bytes, d) => bytes.length + uptoBulk d + 1
  | (_, d) => uptoBulk d + 1
 end
def uptoSmall : (H : Type) → List (DataW H) → Bool := fun _ ds => decide (uptoBulkAll ds ≤ 1048576)
def OpenSpec.upto (s : _root_.Go.ChangeSpec) : _root_.Go.OpenSpec := { _root_.Go.OpenSpec.ofChange s with cond := some uptoSmall }

/-- 'epicyclelaw18.PlanFits', WHERE WHAT IT READS IS OF BULK AT MOST 1048576: true; the input reads as it did. -/
def planFitsUptoRow : OpenClaim := { program := "ytemoginoanhjlaagreat", sum := "927cfb9f18b1c5c7cb58f317035291cdf0b2dda1e33722454b5a0363d9e891ce", func := "epicycle/epicyclelaw18.PlanFits", spec := "planFits", inPlace := ["math/bits.Add64"], unfollowed := true, recurses := true, named := ["math/bits.divideError", "math/bits.overflowError"], plainKeys := false, apart := false, narrowed := true }
def PlanFitsUptoSaid : Prop := planFitsUptoRow.holds Tryz.pinned (OpenSpec.upto planFitsSpec)

/-- 'epicyclelaw18.PlanAll', WHERE WHAT IT READS IS OF BULK AT MOST 1048576: true; the input reads as it did. -/
def planAllUptoRow : OpenClaim := { program := "ytemoginoanhjlaagreat", sum := "927cfb9f18b1c5c7cb58f317035291cdf0b2dda1e33722454b5a0363d9e891ce", func := "epicycle/epicyclelaw18.PlanAll", spec := "planAll", inPlace := ["math/bits.Add64"], unfollowed := true, recurses := true, named := ["math/bits.divideError", "math/bits.overflowError"], plainKeys := false, apart := false, narrowed := true }
def PlanAllUptoSaid : Prop := planAllUptoRow.holds Tryz.pinned (OpenSpec.upto planAllSpec)

/-- 'epicyclelaw18.PlanChooses', WHERE WHAT IT READS IS OF BULK AT MOST 1048576: true; the input reads as it did. -/
def planChoosesUptoRow : OpenClaim := { program := "ytemoginoanhjlaagreat", sum := "927cfb9f18b1c5c7cb58f317035291cdf0b2dda1e33722454b5a0363d9e891ce", func := "epicycle/epicyclelaw18.PlanChooses", spec := "planChooses", inPlace := ["math/bits.Add64"], unfollowed := true, recurses := true, named := ["math/bits.divideError", "math/bits.overflowError"], plainKeys := false, apart := false, narrowed := true }
def PlanChoosesUptoSaid : Prop := planChoosesUptoRow.holds Tryz.pinned (OpenSpec.upto planChoosesSpec)

/-- 'epicyclelaw24.ExactSigned', WHERE WHAT IT READS IS OF BULK AT MOST 1048576: true; the input reads as it did. -/
def exactSignedUptoRow : OpenClaim := { program := "ytemoginoanhjlaagreat", sum := "927cfb9f18b1c5c7cb58f317035291cdf0b2dda1e33722454b5a0363d9e891ce", func := "epicycle/epicyclelaw24.ExactSigned", spec := "exactSigned", inPlace := ["math/bits.Add64", "math/bits.Sub64"], unfollowed := true, recurses := true, named := ["math/bits.divideError", "math/bits.overflowError"], plainKeys := false, apart := false, narrowed := true }
def ExactSignedUptoSaid : Prop := exactSignedUptoRow.holds Tryz.pinned (OpenSpec.upto exactSignedSpec)

/-- 'epicyclelaw24.ExactBounds', WHERE WHAT IT READS IS OF BULK AT MOST 1048576: true; the input reads as it did. -/
def exactBoundsUptoRow : OpenClaim := { program := "ytemoginoanhjlaagreat", sum := "927cfb9f18b1c5c7cb58f317035291cdf0b2dda1e33722454b5a0363d9e891ce", func := "epicycle/epicyclelaw24.ExactBounds", spec := "exactBounds", inPlace := ["math/bits.Add64", "math/bits.Sub64"], unfollowed := true, recurses := true, named := ["math/bits.divideError", "math/bits.overflowError"], plainKeys := false, apart := false, narrowed := true }
def ExactBoundsUptoSaid : Prop := exactBoundsUptoRow.holds Tryz.pinned (OpenSpec.upto exactBoundsSpec)

/-- 'epicyclelaw24.ExactUnsigned', WHERE WHAT IT READS IS OF BULK AT MOST 1048576: true; the input reads as it did. -/
def exactUnsignedUptoRow : OpenClaim := { program := "ytemoginoanhjlaagreat", sum := "927cfb9f18b1c5c7cb58f317035291cdf0b2dda1e33722454b5a0363d9e891ce", func := "epicycle/epicyclelaw24.ExactUnsigned", spec := "exactUnsigned", inPlace := ["math/bits.Add64", "math/bits.Sub64"], unfollowed := true, recurses := true, named := ["math/bits.divideError", "math/bits.overflowError"], plainKeys := false, apart := false, narrowed := true }
def ExactUnsignedUptoSaid : Prop := exactUnsignedUptoRow.holds Tryz.pinned (OpenSpec.upto exactUnsignedSpec)

/-- 'epicyclelaw24.ExactAlike', WHERE WHAT IT READS IS OF BULK AT MOST 1048576: true; the input reads as it did. -/
def exactAlikeUptoRow : OpenClaim := { program := "ytemoginoanhjlaagreat", sum := "927cfb9f18b1c5c7cb58f317035291cdf0b2dda1e33722454b5a0363d9e891ce", func := "epicycle/epicyclelaw24.ExactAlike", spec := "exactAlike", inPlace := ["math/bits.Add64", "math/bits.Sub64"], unfollowed := true, recurses := true, named := ["math/bits.divideError", "math/bits.overflowError"], plainKeys := false, apart := false, narrowed := true }
def ExactAlikeUptoSaid : Prop := exactAlikeUptoRow.holds Tryz.pinned (OpenSpec.upto exactAlikeSpec)

/-- 'epicyclelaw18.PlanRuns', WHERE WHAT IT READS IS OF BULK AT MOST 1048576: true; the input reads as it did. -/
def planRunsUptoRow : OpenClaim := { program := "ytemoginoanhjlaagreat", sum := "927cfb9f18b1c5c7cb58f317035291cdf0b2dda1e33722454b5a0363d9e891ce", func := "epicycle/epicyclelaw18.PlanRuns", spec := "planRuns", inPlace := ["math/bits.Add64"], unfollowed := true, recurses := true, named := ["math/bits.divideError", "math/bits.overflowError"], plainKeys := false, apart := false, narrowed := true }
def PlanRunsUptoSaid : Prop := planRunsUptoRow.holds Tryz.pinned (OpenSpec.upto planRunsSpec)

/-- 'epicyclelaw18.PlanSame', WHERE WHAT IT READS IS OF BULK AT MOST 1048576: true; the input reads as it did. -/
def planSameUptoRow : OpenClaim := { program := "ytemoginoanhjlaagreat", sum := "927cfb9f18b1c5c7cb58f317035291cdf0b2dda1e33722454b5a0363d9e891ce", func := "epicycle/epicyclelaw18.PlanSame", spec := "planSame", inPlace := ["math/bits.Add64"], unfollowed := true, recurses := true, named := ["math/bits.divideError", "math/bits.overflowError"], plainKeys := false, apart := false, narrowed := true }
def PlanSameUptoSaid : Prop := planSameUptoRow.holds Tryz.pinned (OpenSpec.upto planSameSpec)

end Rows
end Go.Proofs.YtemoginoanhjlaaGreat
