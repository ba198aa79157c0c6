/-
  No cell of these rows narrows 'for every input' (looked for: loops, veiled, ifaces, maps, wideKeys, modest, calm, conditions, laid).
  DERIVED. THE GIVEN ROWS OF THIS SEAT. 11 by the template 'for every input the law returns true; each argument reads behind the call as it read before'; 0 by the template 'total and deterministic' (their statements: YtmalmijdjhkklaaGreatTotals.lean).
  GIVEN WITH THE SEED: the statements are not yours to turn. If you find one false, say at which input.
  Laid BY PROGRAM, IN A SANDBOX (cutbox-rows.mjs): the forced cells as the released guide's own fill.sh prints them over the translation bfad84f5c515edc1… (all of the seat's roots in one cut). By AI agents, Wed Nov 11 2026. No macro, syntax, notation, axiom, sorry.
-/
import Derived.Test.YtmalmijdjhkklaaGreatChecked
import GoSem.Claim
import GoSem.ClaimJoined
import GoSem.ClaimMapViews
import Derived.JoinedTies
import Derived.KernelRfl
namespace Go.Proofs.YtmalmijdjhkklaaGreat
/- THE CELL 'sum', in the pinned program and in every row, IS THE sha256 OF THE DUMP (.gsa) THAT YtmalmijdjhkklaaGreatProg.lean LOADS. Nothing in Lean hashes anything: it is a label: what it is worth is what the hold of that sum in a sandbox is worth. -/
noncomputable def Tryz.pinned : Pinned := { name := "ytmalmijdjhkklaagreat", sum := "bfad84f5c515edc169e8f079682a0366e6e20513dfe2d88761a786ee4a156484", checked := Tryz.checked }
namespace Rows
def none {H : Type} : Left H := { results := [], args := [] }

/-- 'epicyclelaw18.PlanFits': WHATEVER THE INPUT: true; the input reads as it did. -/
def planFitsSpec : ChangeSpec := { name := "planFits", fn := fun _ => fun
  | [d1, d2] => { results := [.lit (.bool true)], args := [d1, d2] }
  | _ => none }
def planFitsRow : OpenClaim := { program := "ytmalmijdjhkklaagreat", sum := "bfad84f5c515edc169e8f079682a0366e6e20513dfe2d88761a786ee4a156484", func := "epicycle/epicyclelaw18.PlanFits", spec := "planFits", inPlace := ["math/bits.Add64"], unfollowed := true, recurses := true, named := ["math/bits.divideError", "math/bits.overflowError"], plainKeys := false, apart := false }
def PlanFitsSaid : Prop := planFitsRow.holds Tryz.pinned (OpenSpec.ofChange planFitsSpec)

/-- ITS FALSE NEIGHBOUR: 'it returns false'. Refute it at one input. -/
def planFitsWrong : ChangeSpec := { name := "planFits", fn := fun _ => fun
  | [d1, d2] => { results := [.lit (.bool false)], args := [d1, d2] }
  | _ => none }
def PlanFitsWrongFalsely : Prop := planFitsRow.holds Tryz.pinned (OpenSpec.ofChange planFitsWrong)

/-- 'epicyclelaw18.PlanAll': WHATEVER THE INPUT: true; the input reads as it did. -/
def planAllSpec : ChangeSpec := { name := "planAll", fn := fun _ => fun
  | [d1, d2, d3] => { results := [.lit (.bool true)], args := [d1, d2, d3] }
  | _ => none }
def planAllRow : OpenClaim := { program := "ytmalmijdjhkklaagreat", sum := "bfad84f5c515edc169e8f079682a0366e6e20513dfe2d88761a786ee4a156484", func := "epicycle/epicyclelaw18.PlanAll", spec := "planAll", inPlace := ["math/bits.Add64"], unfollowed := true, recurses := true, named := ["math/bits.divideError", "math/bits.overflowError"], plainKeys := false, apart := false }
def PlanAllSaid : Prop := planAllRow.holds Tryz.pinned (OpenSpec.ofChange planAllSpec)

/-- ITS FALSE NEIGHBOUR: 'it returns false'. Refute it at one input. -/
def planAllWrong : ChangeSpec := { name := "planAll", fn := fun _ => fun
  | [d1, d2, d3] => { results := [.lit (.bool false)], args := [d1, d2, d3] }
  | _ => none }
def PlanAllWrongFalsely : Prop := planAllRow.holds Tryz.pinned (OpenSpec.ofChange planAllWrong)

/-- 'epicyclelaw18.PlanChooses': WHATEVER THE INPUT: true; the input reads as it did. -/
def planChoosesSpec : ChangeSpec := { name := "planChooses", fn := fun _ => fun
  | [d1, d2, d3] => { results := [.lit (.bool true)], args := [d1, d2, d3] }
  | _ => none }
def planChoosesRow : OpenClaim := { program := "ytmalmijdjhkklaagreat", sum := "bfad84f5c515edc169e8f079682a0366e6e20513dfe2d88761a786ee4a156484", func := "epicycle/epicyclelaw18.PlanChooses", spec := "planChooses", inPlace := ["math/bits.Add64"], unfollowed := true, recurses := true, named := ["math/bits.divideError", "math/bits.overflowError"], plainKeys := false, apart := false }
def PlanChoosesSaid : Prop := planChoosesRow.holds Tryz.pinned (OpenSpec.ofChange planChoosesSpec)

/-- ITS FALSE NEIGHBOUR: 'it returns false'. Refute it at one input. -/
def planChoosesWrong : ChangeSpec := { name := "planChooses", fn := fun _ => fun
  | [d1, d2, d3] => { results := [.lit (.bool false)], args := [d1, d2, d3] }
  | _ => none }
def PlanChoosesWrongFalsely : Prop := planChoosesRow.holds Tryz.pinned (OpenSpec.ofChange planChoosesWrong)

/-- 'epicyclelaw18.PlanRuns': WHATEVER THE INPUT: true; the input reads as it did. -/
def planRunsSpec : ChangeSpec := { name := "planRuns", fn := fun _ => fun
  | [d1, d2, d3, d4] => { results := [.lit (.bool true)], args := [d1, d2, d3, d4] }
  | _ => none }
def planRunsRow : OpenClaim := { program := "ytmalmijdjhkklaagreat", sum := "bfad84f5c515edc169e8f079682a0366e6e20513dfe2d88761a786ee4a156484", func := "epicycle/epicyclelaw18.PlanRuns", spec := "planRuns", inPlace := ["math/bits.Add64"], unfollowed := true, recurses := true, named := ["math/bits.divideError", "math/bits.overflowError"], plainKeys := false, apart := false }
def PlanRunsSaid : Prop := planRunsRow.holds Tryz.pinned (OpenSpec.ofChange planRunsSpec)

/-- ITS FALSE NEIGHBOUR: 'it returns false'. Refute it at one input. -/
def planRunsWrong : ChangeSpec := { name := "planRuns", fn := fun _ => fun
  | [d1, d2, d3, d4] => { results := [.lit (.bool false)], args := [d1, d2, d3, d4] }
  | _ => none }
def PlanRunsWrongFalsely : Prop := planRunsRow.holds Tryz.pinned (OpenSpec.ofChange planRunsWrong)

/-- 'epicyclelaw18.PlanSame': WHATEVER THE INPUT: true; the input reads as it did. -/
def planSameSpec : ChangeSpec := { name := "planSame", fn := fun _ => fun
  | [d1, d2, d3, d4, d5] => { results := [.lit (.bool true)], args := [d1, d2, d3, d4, d5] }
  | _ => none }
def planSameRow : OpenClaim := { program := "ytmalmijdjhkklaagreat", sum := "bfad84f5c515edc169e8f079682a0366e6e20513dfe2d88761a786ee4a156484", func := "epicycle/epicyclelaw18.PlanSame", spec := "planSame", inPlace := ["math/bits.Add64"], unfollowed := true, recurses := true, named := ["math/bits.divideError", "math/bits.overflowError"], plainKeys := false, apart := false }
def PlanSameSaid : Prop := planSameRow.holds Tryz.pinned (OpenSpec.ofChange planSameSpec)

/-- ITS FALSE NEIGHBOUR: 'it returns false'. Refute it at one input. -/
def planSameWrong : ChangeSpec := { name := "planSame", fn := fun _ => fun
  | [d1, d2, d3, d4, d5] => { results := [.lit (.bool false)], args := [d1, d2, d3, d4, d5] }
  | _ => none }
def PlanSameWrongFalsely : Prop := planSameRow.holds Tryz.pinned (OpenSpec.ofChange planSameWrong)

/-- 'epicyclelaw21.ConvolveLaws': WHATEVER THE INPUT: true; the input reads as it did. -/
def convolveLawsSpec : ChangeSpec := { name := "convolveLaws", fn := fun _ => fun
  | [d1, d2, d3, d4, d5] => { results := [.lit (.bool true)], args := [d1, d2, d3, d4, d5] }
  | _ => none }
def convolveLawsRow : OpenClaim := { program := "ytmalmijdjhkklaagreat", sum := "bfad84f5c515edc169e8f079682a0366e6e20513dfe2d88761a786ee4a156484", func := "epicycle/epicyclelaw21.ConvolveLaws", spec := "convolveLaws", inPlace := ["math/bits.Add64"], unfollowed := true, recurses := true, named := ["math/bits.divideError", "math/bits.overflowError"], plainKeys := false, apart := false }
def ConvolveLawsSaid : Prop := convolveLawsRow.holds Tryz.pinned (OpenSpec.ofChange convolveLawsSpec)

/-- ITS FALSE NEIGHBOUR: 'it returns false'. Refute it at one input. -/
def convolveLawsWrong : ChangeSpec := { name := "convolveLaws", fn := fun _ => fun
  | [d1, d2, d3, d4, d5] => { results := [.lit (.bool false)], args := [d1, d2, d3, d4, d5] }
  | _ => none }
def ConvolveLawsWrongFalsely : Prop := convolveLawsRow.holds Tryz.pinned (OpenSpec.ofChange convolveLawsWrong)

/-- 'epicyclelaw21.ConvolveTransforms': WHATEVER THE INPUT: true; the input reads as it did. -/
def convolveTransformsSpec : ChangeSpec := { name := "convolveTransforms", fn := fun _ => fun
  | [d1, d2, d3] => { results := [.lit (.bool true)], args := [d1, d2, d3] }
  | _ => none }
def convolveTransformsRow : OpenClaim := { program := "ytmalmijdjhkklaagreat", sum := "bfad84f5c515edc169e8f079682a0366e6e20513dfe2d88761a786ee4a156484", func := "epicycle/epicyclelaw21.ConvolveTransforms", spec := "convolveTransforms", inPlace := ["math/bits.Add64"], unfollowed := true, recurses := true, named := ["math/bits.divideError", "math/bits.overflowError"], plainKeys := false, apart := false }
def ConvolveTransformsSaid : Prop := convolveTransformsRow.holds Tryz.pinned (OpenSpec.ofChange convolveTransformsSpec)

/-- ITS FALSE NEIGHBOUR: 'it returns false'. Refute it at one input. -/
def convolveTransformsWrong : ChangeSpec := { name := "convolveTransforms", fn := fun _ => fun
  | [d1, d2, d3] => { results := [.lit (.bool false)], args := [d1, d2, d3] }
  | _ => none }
def ConvolveTransformsWrongFalsely : Prop := convolveTransformsRow.holds Tryz.pinned (OpenSpec.ofChange convolveTransformsWrong)

/-- 'epicyclelaw21.ConvolveFolds': WHATEVER THE INPUT: true; the input reads as it did. -/
def convolveFoldsSpec : ChangeSpec := { name := "convolveFolds", fn := fun _ => fun
  | [d1, d2, d3] => { results := [.lit (.bool true)], args := [d1, d2, d3] }
  | _ => none }
def convolveFoldsRow : OpenClaim := { program := "ytmalmijdjhkklaagreat", sum := "bfad84f5c515edc169e8f079682a0366e6e20513dfe2d88761a786ee4a156484", func := "epicycle/epicyclelaw21.ConvolveFolds", spec := "convolveFolds", inPlace := ["math/bits.Add64"], unfollowed := true, recurses := true, named := ["math/bits.divideError", "math/bits.overflowError"], plainKeys := false, apart := false }
def ConvolveFoldsSaid : Prop := convolveFoldsRow.holds Tryz.pinned (OpenSpec.ofChange convolveFoldsSpec)

/-- ITS FALSE NEIGHBOUR: 'it returns false'. Refute it at one input. -/
def convolveFoldsWrong : ChangeSpec := { name := "convolveFolds", fn := fun _ => fun
  | [d1, d2, d3] => { results := [.lit (.bool false)], args := [d1, d2, d3] }
  | _ => none }
def ConvolveFoldsWrongFalsely : Prop := convolveFoldsRow.holds Tryz.pinned (OpenSpec.ofChange convolveFoldsWrong)

/-- 'epicyclelaw21.ConvolveRound': WHATEVER THE INPUT: true; the input reads as it did. -/
def convolveRoundSpec : ChangeSpec := { name := "convolveRound", fn := fun _ => fun
  | [d1, d2, d3, d4, d5] => { results := [.lit (.bool true)], args := [d1, d2, d3, d4, d5] }
  | _ => none }
def convolveRoundRow : OpenClaim := { program := "ytmalmijdjhkklaagreat", sum := "bfad84f5c515edc169e8f079682a0366e6e20513dfe2d88761a786ee4a156484", func := "epicycle/epicyclelaw21.ConvolveRound", spec := "convolveRound", inPlace := ["math/bits.Add64"], unfollowed := true, recurses := true, named := ["math/bits.divideError", "math/bits.overflowError"], plainKeys := false, apart := false }
def ConvolveRoundSaid : Prop := convolveRoundRow.holds Tryz.pinned (OpenSpec.ofChange convolveRoundSpec)

/-- ITS FALSE NEIGHBOUR: 'it returns false'. Refute it at one input. -/
def convolveRoundWrong : ChangeSpec := { name := "convolveRound", fn := fun _ => fun
  | [d1, d2, d3, d4, d5] => { results := [.lit (.bool false)], args := [d1, d2, d3, d4, d5] }
  | _ => none }
def ConvolveRoundWrongFalsely : Prop := convolveRoundRow.holds Tryz.pinned (OpenSpec.ofChange convolveRoundWrong)

/-- 'epicyclelaw21.ConvolveStraight': WHATEVER THE INPUT: true; the input reads as it did. -/
def convolveStraightSpec : ChangeSpec := { name := "convolveStraight", fn := fun _ => fun
  | [d1, d2, d3] => { results := [.lit (.bool true)], args := [d1, d2, d3] }
  | _ => none }
def convolveStraightRow : OpenClaim := { program := "ytmalmijdjhkklaagreat", sum := "bfad84f5c515edc169e8f079682a0366e6e20513dfe2d88761a786ee4a156484", func := "epicycle/epicyclelaw21.ConvolveStraight", spec := "convolveStraight", inPlace := ["math/bits.Add64"], unfollowed := true, recurses := true, named := ["math/bits.divideError", "math/bits.overflowError"], plainKeys := false, apart := false }
def ConvolveStraightSaid : Prop := convolveStraightRow.holds Tryz.pinned (OpenSpec.ofChange convolveStraightSpec)

/-- ITS FALSE NEIGHBOUR: 'it returns false'. Refute it at one input. -/
def convolveStraightWrong : ChangeSpec := { name := "convolveStraight", fn := fun _ => fun
  | [d1, d2, d3] => { results := [.lit (.bool false)], args := [d1, d2, d3] }
  | _ => none }
def ConvolveStraightWrongFalsely : Prop := convolveStraightRow.holds Tryz.pinned (OpenSpec.ofChange convolveStraightWrong)

/-- 'epicyclelaw21.ConvolveMany': WHATEVER THE INPUT: true; the input reads as it did. -/
def convolveManySpec : ChangeSpec := { name := "convolveMany", fn := fun _ => fun
  | [d1, d2, d3, d4] => { results := [.lit (.bool true)], args := [d1, d2, d3, d4] }
  | _ => none }
def convolveManyRow : OpenClaim := { program := "ytmalmijdjhkklaagreat", sum := "bfad84f5c515edc169e8f079682a0366e6e20513dfe2d88761a786ee4a156484", func := "epicycle/epicyclelaw21.ConvolveMany", spec := "convolveMany", inPlace := ["math/bits.Add64"], unfollowed := true, recurses := true, named := ["math/bits.divideError", "math/bits.overflowError"], plainKeys := false, apart := false }
def ConvolveManySaid : Prop := convolveManyRow.holds Tryz.pinned (OpenSpec.ofChange convolveManySpec)

/-- ITS FALSE NEIGHBOUR: 'it returns false'. Refute it at one input. -/
def convolveManyWrong : ChangeSpec := { name := "convolveMany", fn := fun _ => fun
  | [d1, d2, d3, d4] => { results := [.lit (.bool false)], args := [d1, d2, d3, d4] }
  | _ => none }
def ConvolveManyWrongFalsely : Prop := convolveManyRow.holds Tryz.pinned (OpenSpec.ofChange convolveManyWrong)

/- THE SECOND FORM. 'bulk': how many values and letters a reading holds, each counted each time it is reached (what is shared counts as often as it is met; a slice's spare places count too). A statement '..UptoSaid' is the law's where the arguments, and the package variables that the reading takes, are together of bulk at most 1048576: NARROWER than '..Said'. Prove '..Said' where nothing that the law and all that it calls make is longer than what came in: it says more and counts as full. Else prove '..UptoSaid'. A law counts once. -/
mutual
def uptoBulk {H : Type} : DataW H → Nat
  | .lit (.string bytes) => bytes.length + 1
  | .lit _ => 1
  | .nil => 1
  | .ptr d => uptoBulk d + 1
  | .slice elems spare => uptoBulkAll elems + uptoBulkAll spare + 1
  | .agg parts => uptoBulkAll parts + 1
  | .iface _ d => uptoBulk d + 1
  | .map entries => uptoBulkEntries entries + 1
  | .held _ => 1
def uptoBulkAll {H : Type} : List (DataW H) → Nat
  | [] => 0
  | d :: r => uptoBulk d + uptoBulkAll r
def uptoBulkEntries {H : Type} : List (Lit × DataW H) → Nat
  | [] => 0
  | x :: r => uptoBulkEntry x + uptoBulkEntries r
def uptoBulkEntry {H : Type} : Lit × DataW H → Nat
  | (.string bytes, d) => bytes.length + uptoBulk d + 1
  | (_, d) => uptoBulk d + 1
 end
def uptoSmall : (H : Type) → List (DataW H) → Bool := fun _ ds => decide (uptoBulkAll ds ≤ 1048576)
def OpenSpec.upto (s : _root_.Go.ChangeSpec) : _root_.Go.OpenSpec := { _root_.Go.OpenSpec.ofChange s with cond := some uptoSmall }

/-- 'epicyclelaw18.PlanFits', WHERE WHAT IT READS IS OF BULK AT MOST 1048576: true; the input reads as it did. -/
def planFitsUptoRow : OpenClaim := { program := "ytmalmijdjhkklaagreat", sum := "bfad84f5c515edc169e8f079682a0366e6e20513dfe2d88761a786ee4a156484", func := "epicycle/epicyclelaw18.PlanFits", spec := "planFits", inPlace := ["math/bits.Add64"], unfollowed := true, recurses := true, named := ["math/bits.divideError", "math/bits.overflowError"], plainKeys := false, apart := false, narrowed := true }
def PlanFitsUptoSaid : Prop := planFitsUptoRow.holds Tryz.pinned (OpenSpec.upto planFitsSpec)

/-- 'epicyclelaw18.PlanAll', WHERE WHAT IT READS IS OF BULK AT MOST 1048576: true; the input reads as it did. -/
def planAllUptoRow : OpenClaim := { program := "ytmalmijdjhkklaagreat", sum := "bfad84f5c515edc169e8f079682a0366e6e20513dfe2d88761a786ee4a156484", func := "epicycle/epicyclelaw18.PlanAll", spec := "planAll", inPlace := ["math/bits.Add64"], unfollowed := true, recurses := true, named := ["math/bits.divideError", "math/bits.overflowError"], plainKeys := false, apart := false, narrowed := true }
def PlanAllUptoSaid : Prop := planAllUptoRow.holds Tryz.pinned (OpenSpec.upto planAllSpec)

/-- 'epicyclelaw18.PlanChooses', WHERE WHAT IT READS IS OF BULK AT MOST 1048576: true; the input reads as it did. -/
def planChoosesUptoRow : OpenClaim := { program := "ytmalmijdjhkklaagreat", sum := "bfad84f5c515edc169e8f079682a0366e6e20513dfe2d88761a786ee4a156484", func := "epicycle/epicyclelaw18.PlanChooses", spec := "planChooses", inPlace := ["math/bits.Add64"], unfollowed := true, recurses := true, named := ["math/bits.divideError", "math/bits.overflowError"], plainKeys := false, apart := false, narrowed := true }
def PlanChoosesUptoSaid : Prop := planChoosesUptoRow.holds Tryz.pinned (OpenSpec.upto planChoosesSpec)

/-- 'epicyclelaw18.PlanRuns', WHERE WHAT IT READS IS OF BULK AT MOST 1048576: true; the input reads as it did. -/
def planRunsUptoRow : OpenClaim := { program := "ytmalmijdjhkklaagreat", sum := "bfad84f5c515edc169e8f079682a0366e6e20513dfe2d88761a786ee4a156484", func := "epicycle/epicyclelaw18.PlanRuns", spec := "planRuns", inPlace := ["math/bits.Add64"], unfollowed := true, recurses := true, named := ["math/bits.divideError", "math/bits.overflowError"], plainKeys := false, apart := false, narrowed := true }
def PlanRunsUptoSaid : Prop := planRunsUptoRow.holds Tryz.pinned (OpenSpec.upto planRunsSpec)

/-- 'epicyclelaw18.PlanSame', WHERE WHAT IT READS IS OF BULK AT MOST 1048576: true; the input reads as it did. -/
def planSameUptoRow : OpenClaim := { program := "ytmalmijdjhkklaagreat", sum := "bfad84f5c515edc169e8f079682a0366e6e20513dfe2d88761a786ee4a156484", func := "epicycle/epicyclelaw18.PlanSame", spec := "planSame", inPlace := ["math/bits.Add64"], unfollowed := true, recurses := true, named := ["math/bits.divideError", "math/bits.overflowError"], plainKeys := false, apart := false, narrowed := true }
def PlanSameUptoSaid : Prop := planSameUptoRow.holds Tryz.pinned (OpenSpec.upto planSameSpec)

/-- 'epicyclelaw21.ConvolveLaws', WHERE WHAT IT READS IS OF BULK AT MOST 1048576: true; the input reads as it did. -/
def convolveLawsUptoRow : OpenClaim := { program := "ytmalmijdjhkklaagreat", sum := "bfad84f5c515edc169e8f079682a0366e6e20513dfe2d88761a786ee4a156484", func := "epicycle/epicyclelaw21.ConvolveLaws", spec := "convolveLaws", inPlace := ["math/bits.Add64"], unfollowed := true, recurses := true, named := ["math/bits.divideError", "math/bits.overflowError"], plainKeys := false, apart := false, narrowed := true }
def ConvolveLawsUptoSaid : Prop := convolveLawsUptoRow.holds Tryz.pinned (OpenSpec.upto convolveLawsSpec)

/-- 'epicyclelaw21.ConvolveTransforms', WHERE WHAT IT READS IS OF BULK AT MOST 1048576: true; the input reads as it did. -/
def convolveTransformsUptoRow : OpenClaim := { program := "ytmalmijdjhkklaagreat", sum := "bfad84f5c515edc169e8f079682a0366e6e20513dfe2d88761a786ee4a156484", func := "epicycle/epicyclelaw21.ConvolveTransforms", spec := "convolveTransforms", inPlace := ["math/bits.Add64"], unfollowed := true, recurses := true, named := ["math/bits.divideError", "math/bits.overflowError"], plainKeys := false, apart := false, narrowed := true }
def ConvolveTransformsUptoSaid : Prop := convolveTransformsUptoRow.holds Tryz.pinned (OpenSpec.upto convolveTransformsSpec)

/-- 'epicyclelaw21.ConvolveFolds', WHERE WHAT IT READS IS OF BULK AT MOST 1048576: true; the input reads as it did. -/
def convolveFoldsUptoRow : OpenClaim := { program := "ytmalmijdjhkklaagreat", sum := "bfad84f5c515edc169e8f079682a0366e6e20513dfe2d88761a786ee4a156484", func := "epicycle/epicyclelaw21.ConvolveFolds", spec := "convolveFolds", inPlace := ["math/bits.Add64"], unfollowed := true, recurses := true, named := ["math/bits.divideError", "math/bits.overflowError"], plainKeys := false, apart := false, narrowed := true }
def ConvolveFoldsUptoSaid : Prop := convolveFoldsUptoRow.holds Tryz.pinned (OpenSpec.upto convolveFoldsSpec)

/-- 'epicyclelaw21.ConvolveRound', WHERE WHAT IT READS IS OF BULK AT MOST 1048576: true; the input reads as it did. -/
def convolveRoundUptoRow : OpenClaim := { program := "ytmalmijdjhkklaagreat", sum := "bfad84f5c515edc169e8f079682a0366e6e20513dfe2d88761a786ee4a156484", func := "epicycle/epicyclelaw21.ConvolveRound", spec := "convolveRound", inPlace := ["math/bits.Add64"], unfollowed := true, recurses := true, named := ["math/bits.divideError", "math/bits.overflowError"], plainKeys := false, apart := false, narrowed := true }
def ConvolveRoundUptoSaid : Prop := convolveRoundUptoRow.holds Tryz.pinned (OpenSpec.upto convolveRoundSpec)

/-- 'epicyclelaw21.ConvolveStraight', WHERE WHAT IT READS IS OF BULK AT MOST 1048576: true; the input reads as it did. -/
def convolveStraightUptoRow : OpenClaim := { program := "ytmalmijdjhkklaagreat", sum := "bfad84f5c515edc169e8f079682a0366e6e20513dfe2d88761a786ee4a156484", func := "epicycle/epicyclelaw21.ConvolveStraight", spec := "convolveStraight", inPlace := ["math/bits.Add64"], unfollowed := true, recurses := true, named := ["math/bits.divideError", "math/bits.overflowError"], plainKeys := false, apart := false, narrowed := true }
def ConvolveStraightUptoSaid : Prop := convolveStraightUptoRow.holds Tryz.pinned (OpenSpec.upto convolveStraightSpec)

/-- 'epicyclelaw21.ConvolveMany', WHERE WHAT IT READS IS OF BULK AT MOST 1048576: true; the input reads as it did. -/
def convolveManyUptoRow : OpenClaim := { program := "ytmalmijdjhkklaagreat", sum := "bfad84f5c515edc169e8f079682a0366e6e20513dfe2d88761a786ee4a156484", func := "epicycle/epicyclelaw21.ConvolveMany", spec := "convolveMany", inPlace := ["math/bits.Add64"], unfollowed := true, recurses := true, named := ["math/bits.divideError", "math/bits.overflowError"], plainKeys := false, apart := false, narrowed := true }
def ConvolveManyUptoSaid : Prop := convolveManyUptoRow.holds Tryz.pinned (OpenSpec.upto convolveManySpec)

end Rows
end Go.Proofs.YtmalmijdjhkklaaGreat
