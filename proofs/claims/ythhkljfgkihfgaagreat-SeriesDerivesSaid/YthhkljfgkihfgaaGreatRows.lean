/-
  No cell of these rows narrows 'for every input' (looked for: loops, veiled, ifaces, maps, wideKeys, modest, calm, conditions, laid).
  DERIVED. THE GIVEN ROWS OF THIS SEAT. 16 by the template 'for every input the law returns true; each argument reads behind the call as it read before'; 0 by the template 'total and deterministic' (their statements: YthhkljfgkihfgaaGreatTotals.lean).
  GIVEN WITH THE SEED: the statements are not yours to turn. If you find one false, say at which input.
  Laid BY PROGRAM, IN A SANDBOX (cutbox-rows.mjs): the forced cells as the released guide's own fill.sh prints them over the translation fd1999da129a7eeb… (all of the seat's roots in one cut). By AI agents, Wed Nov 11 2026. No macro, syntax, notation, axiom, sorry.
-/
import Derived.Test.YthhkljfgkihfgaaGreatChecked
import GoSem.Claim
import GoSem.ClaimJoined
import GoSem.ClaimMapViews
import Derived.JoinedTies
import Derived.KernelRfl
namespace Go.Proofs.YthhkljfgkihfgaaGreat
/- THE CELL 'sum', in the pinned program and in every row, IS THE sha256 OF THE DUMP (.gsa) THAT YthhkljfgkihfgaaGreatProg.lean LOADS. Nothing in Lean hashes anything: it is a label: what it is worth is what the hold of that sum in a sandbox is worth. -/
noncomputable def Tryz.pinned : Pinned := { name := "ythhkljfgkihfgaagreat", sum := "fd1999da129a7eeb1e1d50658fb5301f240231089e3a9219da9e99ea740b89d0", checked := Tryz.checked }
namespace Rows
def none {H : Type} : Left H := { results := [], args := [] }

/-- 'epicyclelaw12.Radix2Sizes': WHATEVER THE INPUT: true; the input reads as it did. -/
def radix2SizesSpec : ChangeSpec := { name := "radix2Sizes", fn := fun _ => fun
  | [d] => { results := [.lit (.bool true)], args := [d] }
  | _ => none }
def radix2SizesRow : OpenClaim := { program := "ythhkljfgkihfgaagreat", sum := "fd1999da129a7eeb1e1d50658fb5301f240231089e3a9219da9e99ea740b89d0", func := "epicycle/epicyclelaw12.Radix2Sizes", spec := "radix2Sizes", inPlace := ["math/bits.Add64"], unfollowed := true, recurses := true, named := ["math/bits.divideError", "math/bits.overflowError"], apart := false }
def Radix2SizesSaid : Prop := radix2SizesRow.holds Tryz.pinned (OpenSpec.ofChange radix2SizesSpec)

/-- ITS FALSE NEIGHBOUR: 'it returns false'. Refute it at one input. -/
def radix2SizesWrong : ChangeSpec := { name := "radix2Sizes", fn := fun _ => fun
  | [d] => { results := [.lit (.bool false)], args := [d] }
  | _ => none }
def Radix2SizesWrongFalsely : Prop := radix2SizesRow.holds Tryz.pinned (OpenSpec.ofChange radix2SizesWrong)

/-- 'epicyclelaw12.Radix2Is': WHATEVER THE INPUT: true; the input reads as it did. -/
def radix2IsSpec : ChangeSpec := { name := "radix2Is", fn := fun _ => fun
  | [d1, d2, d3] => { results := [.lit (.bool true)], args := [d1, d2, d3] }
  | _ => none }
def radix2IsRow : OpenClaim := { program := "ythhkljfgkihfgaagreat", sum := "fd1999da129a7eeb1e1d50658fb5301f240231089e3a9219da9e99ea740b89d0", func := "epicycle/epicyclelaw12.Radix2Is", spec := "radix2Is", inPlace := ["math/bits.Add64"], unfollowed := true, recurses := true, named := ["math/bits.divideError", "math/bits.overflowError"], apart := false }
def Radix2IsSaid : Prop := radix2IsRow.holds Tryz.pinned (OpenSpec.ofChange radix2IsSpec)

/-- ITS FALSE NEIGHBOUR: 'it returns false'. Refute it at one input. -/
def radix2IsWrong : ChangeSpec := { name := "radix2Is", fn := fun _ => fun
  | [d1, d2, d3] => { results := [.lit (.bool false)], args := [d1, d2, d3] }
  | _ => none }
def Radix2IsWrongFalsely : Prop := radix2IsRow.holds Tryz.pinned (OpenSpec.ofChange radix2IsWrong)

/-- 'epicyclelaw12.Radix2Back': WHATEVER THE INPUT: true; the input reads as it did. -/
def radix2BackSpec : ChangeSpec := { name := "radix2Back", fn := fun _ => fun
  | [d1, d2] => { results := [.lit (.bool true)], args := [d1, d2] }
  | _ => none }
def radix2BackRow : OpenClaim := { program := "ythhkljfgkihfgaagreat", sum := "fd1999da129a7eeb1e1d50658fb5301f240231089e3a9219da9e99ea740b89d0", func := "epicycle/epicyclelaw12.Radix2Back", spec := "radix2Back", inPlace := ["math/bits.Add64"], unfollowed := true, recurses := true, named := ["math/bits.divideError", "math/bits.overflowError"], apart := false }
def Radix2BackSaid : Prop := radix2BackRow.holds Tryz.pinned (OpenSpec.ofChange radix2BackSpec)

/-- ITS FALSE NEIGHBOUR: 'it returns false'. Refute it at one input. -/
def radix2BackWrong : ChangeSpec := { name := "radix2Back", fn := fun _ => fun
  | [d1, d2] => { results := [.lit (.bool false)], args := [d1, d2] }
  | _ => none }
def Radix2BackWrongFalsely : Prop := radix2BackRow.holds Tryz.pinned (OpenSpec.ofChange radix2BackWrong)

/-- 'epicyclelaw12.Radix2Folds': WHATEVER THE INPUT: true; the input reads as it did. -/
def radix2FoldsSpec : ChangeSpec := { name := "radix2Folds", fn := fun _ => fun
  | [d1, d2] => { results := [.lit (.bool true)], args := [d1, d2] }
  | _ => none }
def radix2FoldsRow : OpenClaim := { program := "ythhkljfgkihfgaagreat", sum := "fd1999da129a7eeb1e1d50658fb5301f240231089e3a9219da9e99ea740b89d0", func := "epicycle/epicyclelaw12.Radix2Folds", spec := "radix2Folds", inPlace := ["math/bits.Add64"], unfollowed := true, recurses := true, named := ["math/bits.divideError", "math/bits.overflowError"], apart := false }
def Radix2FoldsSaid : Prop := radix2FoldsRow.holds Tryz.pinned (OpenSpec.ofChange radix2FoldsSpec)

/-- ITS FALSE NEIGHBOUR: 'it returns false'. Refute it at one input. -/
def radix2FoldsWrong : ChangeSpec := { name := "radix2Folds", fn := fun _ => fun
  | [d1, d2] => { results := [.lit (.bool false)], args := [d1, d2] }
  | _ => none }
def Radix2FoldsWrongFalsely : Prop := radix2FoldsRow.holds Tryz.pinned (OpenSpec.ofChange radix2FoldsWrong)

/-- 'epicyclelaw17.ChirpPairs': WHATEVER THE INPUT: true; the input reads as it did. -/
def chirpPairsSpec : ChangeSpec := { name := "chirpPairs", fn := fun _ => fun
  | [d1, d2, d3] => { results := [.lit (.bool true)], args := [d1, d2, d3] }
  | _ => none }
def chirpPairsRow : OpenClaim := { program := "ythhkljfgkihfgaagreat", sum := "fd1999da129a7eeb1e1d50658fb5301f240231089e3a9219da9e99ea740b89d0", func := "epicycle/epicyclelaw17.ChirpPairs", spec := "chirpPairs", inPlace := ["math/bits.Add64"], unfollowed := true, recurses := true, named := ["math/bits.divideError", "math/bits.overflowError"], apart := false }
def ChirpPairsSaid : Prop := chirpPairsRow.holds Tryz.pinned (OpenSpec.ofChange chirpPairsSpec)

/-- ITS FALSE NEIGHBOUR: 'it returns false'. Refute it at one input. -/
def chirpPairsWrong : ChangeSpec := { name := "chirpPairs", fn := fun _ => fun
  | [d1, d2, d3] => { results := [.lit (.bool false)], args := [d1, d2, d3] }
  | _ => none }
def ChirpPairsWrongFalsely : Prop := chirpPairsRow.holds Tryz.pinned (OpenSpec.ofChange chirpPairsWrong)

/-- 'epicyclelaw13.Radix4Same': WHATEVER THE INPUT: true; the input reads as it did. -/
def radix4SameSpec : ChangeSpec := { name := "radix4Same", fn := fun _ => fun
  | [d1, d2, d3] => { results := [.lit (.bool true)], args := [d1, d2, d3] }
  | _ => none }
def radix4SameRow : OpenClaim := { program := "ythhkljfgkihfgaagreat", sum := "fd1999da129a7eeb1e1d50658fb5301f240231089e3a9219da9e99ea740b89d0", func := "epicycle/epicyclelaw13.Radix4Same", spec := "radix4Same", inPlace := ["math/bits.Add64"], unfollowed := true, recurses := true, named := ["math/bits.divideError", "math/bits.overflowError"], apart := false }
def Radix4SameSaid : Prop := radix4SameRow.holds Tryz.pinned (OpenSpec.ofChange radix4SameSpec)

/-- ITS FALSE NEIGHBOUR: 'it returns false'. Refute it at one input. -/
def radix4SameWrong : ChangeSpec := { name := "radix4Same", fn := fun _ => fun
  | [d1, d2, d3] => { results := [.lit (.bool false)], args := [d1, d2, d3] }
  | _ => none }
def Radix4SameWrongFalsely : Prop := radix4SameRow.holds Tryz.pinned (OpenSpec.ofChange radix4SameWrong)

/-- 'epicyclelaw17.ChirpIs': WHATEVER THE INPUT: true; the input reads as it did. -/
def chirpIsSpec : ChangeSpec := { name := "chirpIs", fn := fun _ => fun
  | [d1, d2, d3] => { results := [.lit (.bool true)], args := [d1, d2, d3] }
  | _ => none }
def chirpIsRow : OpenClaim := { program := "ythhkljfgkihfgaagreat", sum := "fd1999da129a7eeb1e1d50658fb5301f240231089e3a9219da9e99ea740b89d0", func := "epicycle/epicyclelaw17.ChirpIs", spec := "chirpIs", inPlace := ["math/bits.Add64"], unfollowed := true, recurses := true, named := ["math/bits.divideError", "math/bits.overflowError"], apart := false }
def ChirpIsSaid : Prop := chirpIsRow.holds Tryz.pinned (OpenSpec.ofChange chirpIsSpec)

/-- ITS FALSE NEIGHBOUR: 'it returns false'. Refute it at one input. -/
def chirpIsWrong : ChangeSpec := { name := "chirpIs", fn := fun _ => fun
  | [d1, d2, d3] => { results := [.lit (.bool false)], args := [d1, d2, d3] }
  | _ => none }
def ChirpIsWrongFalsely : Prop := chirpIsRow.holds Tryz.pinned (OpenSpec.ofChange chirpIsWrong)

/-- 'epicyclelaw17.ChirpSizes': WHATEVER THE INPUT: true; the input reads as it did. -/
def chirpSizesSpec : ChangeSpec := { name := "chirpSizes", fn := fun _ => fun
  | [d1, d2, d3] => { results := [.lit (.bool true)], args := [d1, d2, d3] }
  | _ => none }
def chirpSizesRow : OpenClaim := { program := "ythhkljfgkihfgaagreat", sum := "fd1999da129a7eeb1e1d50658fb5301f240231089e3a9219da9e99ea740b89d0", func := "epicycle/epicyclelaw17.ChirpSizes", spec := "chirpSizes", inPlace := ["math/bits.Add64"], unfollowed := true, recurses := true, named := ["math/bits.divideError", "math/bits.overflowError"], apart := false }
def ChirpSizesSaid : Prop := chirpSizesRow.holds Tryz.pinned (OpenSpec.ofChange chirpSizesSpec)

/-- ITS FALSE NEIGHBOUR: 'it returns false'. Refute it at one input. -/
def chirpSizesWrong : ChangeSpec := { name := "chirpSizes", fn := fun _ => fun
  | [d1, d2, d3] => { results := [.lit (.bool false)], args := [d1, d2, d3] }
  | _ => none }
def ChirpSizesWrongFalsely : Prop := chirpSizesRow.holds Tryz.pinned (OpenSpec.ofChange chirpSizesWrong)

/-- 'epicyclelaw17.ChirpBack': WHATEVER THE INPUT: true; the input reads as it did. -/
def chirpBackSpec : ChangeSpec := { name := "chirpBack", fn := fun _ => fun
  | [d1, d2, d3] => { results := [.lit (.bool true)], args := [d1, d2, d3] }
  | _ => none }
def chirpBackRow : OpenClaim := { program := "ythhkljfgkihfgaagreat", sum := "fd1999da129a7eeb1e1d50658fb5301f240231089e3a9219da9e99ea740b89d0", func := "epicycle/epicyclelaw17.ChirpBack", spec := "chirpBack", inPlace := ["math/bits.Add64"], unfollowed := true, recurses := true, named := ["math/bits.divideError", "math/bits.overflowError"], apart := false }
def ChirpBackSaid : Prop := chirpBackRow.holds Tryz.pinned (OpenSpec.ofChange chirpBackSpec)

/-- ITS FALSE NEIGHBOUR: 'it returns false'. Refute it at one input. -/
def chirpBackWrong : ChangeSpec := { name := "chirpBack", fn := fun _ => fun
  | [d1, d2, d3] => { results := [.lit (.bool false)], args := [d1, d2, d3] }
  | _ => none }
def ChirpBackWrongFalsely : Prop := chirpBackRow.holds Tryz.pinned (OpenSpec.ofChange chirpBackWrong)

/-- 'epicyclelaw16.RaderIs': WHATEVER THE INPUT: true; the input reads as it did. -/
def raderIsSpec : ChangeSpec := { name := "raderIs", fn := fun _ => fun
  | [d1, d2, d3] => { results := [.lit (.bool true)], args := [d1, d2, d3] }
  | _ => none }
def raderIsRow : OpenClaim := { program := "ythhkljfgkihfgaagreat", sum := "fd1999da129a7eeb1e1d50658fb5301f240231089e3a9219da9e99ea740b89d0", func := "epicycle/epicyclelaw16.RaderIs", spec := "raderIs", inPlace := ["math/bits.Add64"], unfollowed := true, recurses := true, named := ["math/bits.divideError", "math/bits.overflowError"], apart := false }
def RaderIsSaid : Prop := raderIsRow.holds Tryz.pinned (OpenSpec.ofChange raderIsSpec)

/-- ITS FALSE NEIGHBOUR: 'it returns false'. Refute it at one input. -/
def raderIsWrong : ChangeSpec := { name := "raderIs", fn := fun _ => fun
  | [d1, d2, d3] => { results := [.lit (.bool false)], args := [d1, d2, d3] }
  | _ => none }
def RaderIsWrongFalsely : Prop := raderIsRow.holds Tryz.pinned (OpenSpec.ofChange raderIsWrong)

/-- 'epicyclelaw16.RaderBack': WHATEVER THE INPUT: true; the input reads as it did. -/
def raderBackSpec : ChangeSpec := { name := "raderBack", fn := fun _ => fun
  | [d1, d2, d3] => { results := [.lit (.bool true)], args := [d1, d2, d3] }
  | _ => none }
def raderBackRow : OpenClaim := { program := "ythhkljfgkihfgaagreat", sum := "fd1999da129a7eeb1e1d50658fb5301f240231089e3a9219da9e99ea740b89d0", func := "epicycle/epicyclelaw16.RaderBack", spec := "raderBack", inPlace := ["math/bits.Add64"], unfollowed := true, recurses := true, named := ["math/bits.divideError", "math/bits.overflowError"], apart := false }
def RaderBackSaid : Prop := raderBackRow.holds Tryz.pinned (OpenSpec.ofChange raderBackSpec)

/-- ITS FALSE NEIGHBOUR: 'it returns false'. Refute it at one input. -/
def raderBackWrong : ChangeSpec := { name := "raderBack", fn := fun _ => fun
  | [d1, d2, d3] => { results := [.lit (.bool false)], args := [d1, d2, d3] }
  | _ => none }
def RaderBackWrongFalsely : Prop := raderBackRow.holds Tryz.pinned (OpenSpec.ofChange raderBackWrong)

/-- 'epicyclelaw25.SeriesInverts': WHATEVER THE INPUT: true; the input reads as it did. -/
def seriesInvertsSpec : ChangeSpec := { name := "seriesInverts", fn := fun _ => fun
  | [d1, d2, d3] => { results := [.lit (.bool true)], args := [d1, d2, d3] }
  | _ => none }
def seriesInvertsRow : OpenClaim := { program := "ythhkljfgkihfgaagreat", sum := "fd1999da129a7eeb1e1d50658fb5301f240231089e3a9219da9e99ea740b89d0", func := "epicycle/epicyclelaw25.SeriesInverts", spec := "seriesInverts", inPlace := ["math/bits.Add64"], unfollowed := true, recurses := true, named := ["math/bits.divideError", "math/bits.overflowError"], apart := false }
def SeriesInvertsSaid : Prop := seriesInvertsRow.holds Tryz.pinned (OpenSpec.ofChange seriesInvertsSpec)

/-- ITS FALSE NEIGHBOUR: 'it returns false'. Refute it at one input. -/
def seriesInvertsWrong : ChangeSpec := { name := "seriesInverts", fn := fun _ => fun
  | [d1, d2, d3] => { results := [.lit (.bool false)], args := [d1, d2, d3] }
  | _ => none }
def SeriesInvertsWrongFalsely : Prop := seriesInvertsRow.holds Tryz.pinned (OpenSpec.ofChange seriesInvertsWrong)

/-- 'epicyclelaw25.SeriesDivides': WHATEVER THE INPUT: true; the input reads as it did. -/
def seriesDividesSpec : ChangeSpec := { name := "seriesDivides", fn := fun _ => fun
  | [d1, d2, d3, d4] => { results := [.lit (.bool true)], args := [d1, d2, d3, d4] }
  | _ => none }
def seriesDividesRow : OpenClaim := { program := "ythhkljfgkihfgaagreat", sum := "fd1999da129a7eeb1e1d50658fb5301f240231089e3a9219da9e99ea740b89d0", func := "epicycle/epicyclelaw25.SeriesDivides", spec := "seriesDivides", inPlace := ["math/bits.Add64"], unfollowed := true, recurses := true, named := ["math/bits.divideError", "math/bits.overflowError"], apart := false }
def SeriesDividesSaid : Prop := seriesDividesRow.holds Tryz.pinned (OpenSpec.ofChange seriesDividesSpec)

/-- ITS FALSE NEIGHBOUR: 'it returns false'. Refute it at one input. -/
def seriesDividesWrong : ChangeSpec := { name := "seriesDivides", fn := fun _ => fun
  | [d1, d2, d3, d4] => { results := [.lit (.bool false)], args := [d1, d2, d3, d4] }
  | _ => none }
def SeriesDividesWrongFalsely : Prop := seriesDividesRow.holds Tryz.pinned (OpenSpec.ofChange seriesDividesWrong)

/-- 'epicyclelaw25.SeriesMultiplies': WHATEVER THE INPUT: true; the input reads as it did. -/
def seriesMultipliesSpec : ChangeSpec := { name := "seriesMultiplies", fn := fun _ => fun
  | [d1, d2, d3, d4, d5] => { results := [.lit (.bool true)], args := [d1, d2, d3, d4, d5] }
  | _ => none }
def seriesMultipliesRow : OpenClaim := { program := "ythhkljfgkihfgaagreat", sum := "fd1999da129a7eeb1e1d50658fb5301f240231089e3a9219da9e99ea740b89d0", func := "epicycle/epicyclelaw25.SeriesMultiplies", spec := "seriesMultiplies", inPlace := ["math/bits.Add64"], unfollowed := true, recurses := true, named := ["math/bits.divideError", "math/bits.overflowError"], apart := false }
def SeriesMultipliesSaid : Prop := seriesMultipliesRow.holds Tryz.pinned (OpenSpec.ofChange seriesMultipliesSpec)

/-- ITS FALSE NEIGHBOUR: 'it returns false'. Refute it at one input. -/
def seriesMultipliesWrong : ChangeSpec := { name := "seriesMultiplies", fn := fun _ => fun
  | [d1, d2, d3, d4, d5] => { results := [.lit (.bool false)], args := [d1, d2, d3, d4, d5] }
  | _ => none }
def SeriesMultipliesWrongFalsely : Prop := seriesMultipliesRow.holds Tryz.pinned (OpenSpec.ofChange seriesMultipliesWrong)

/-- 'epicyclelaw25.SeriesBinomial': WHATEVER THE INPUT: true; the input reads as it did. -/
def seriesBinomialSpec : ChangeSpec := { name := "seriesBinomial", fn := fun _ => fun
  | [d1, d2, d3, d4, d5] => { results := [.lit (.bool true)], args := [d1, d2, d3, d4, d5] }
  | _ => none }
def seriesBinomialRow : OpenClaim := { program := "ythhkljfgkihfgaagreat", sum := "fd1999da129a7eeb1e1d50658fb5301f240231089e3a9219da9e99ea740b89d0", func := "epicycle/epicyclelaw25.SeriesBinomial", spec := "seriesBinomial", inPlace := ["math/bits.Add64"], unfollowed := true, recurses := true, named := ["math/bits.divideError", "math/bits.overflowError"], apart := false }
def SeriesBinomialSaid : Prop := seriesBinomialRow.holds Tryz.pinned (OpenSpec.ofChange seriesBinomialSpec)

/-- ITS FALSE NEIGHBOUR: 'it returns false'. Refute it at one input. -/
def seriesBinomialWrong : ChangeSpec := { name := "seriesBinomial", fn := fun _ => fun
  | [d1, d2, d3, d4, d5] => { results := [.lit (.bool false)], args := [d1, d2, d3, d4, d5] }
  | _ => none }
def SeriesBinomialWrongFalsely : Prop := seriesBinomialRow.holds Tryz.pinned (OpenSpec.ofChange seriesBinomialWrong)

/-- 'epicyclelaw25.SeriesDerives': WHATEVER THE INPUT: true; the input reads as it did. -/
def seriesDerivesSpec : ChangeSpec := { name := "seriesDerives", fn := fun _ => fun
  | [d1, d2, d3, d4] => { results := [.lit (.bool true)], args := [d1, d2, d3, d4] }
  | _ => none }
def seriesDerivesRow : OpenClaim := { program := "ythhkljfgkihfgaagreat", sum := "fd1999da129a7eeb1e1d50658fb5301f240231089e3a9219da9e99ea740b89d0", func := "epicycle/epicyclelaw25.SeriesDerives", spec := "seriesDerives", inPlace := ["math/bits.Add64"], unfollowed := true, recurses := true, named := ["math/bits.divideError", "math/bits.overflowError"], apart := false }
def SeriesDerivesSaid : Prop := seriesDerivesRow.holds Tryz.pinned (OpenSpec.ofChange seriesDerivesSpec)

/-- ITS FALSE NEIGHBOUR: 'it returns false'. Refute it at one input. -/
def seriesDerivesWrong : ChangeSpec := { name := "seriesDerives", fn := fun _ => fun
  | [d1, d2, d3, d4] => { results := [.lit (.bool false)], args := [d1, d2, d3, d4] }
  | _ => none }
def SeriesDerivesWrongFalsely : Prop := seriesDerivesRow.holds Tryz.pinned (OpenSpec.ofChange seriesDerivesWrong)

/- THE SECOND FORM. 'bulk': how many values and letters a reading holds, each counted each time it is reached (what is shared counts as often as it is met; a slice's spare places count too). A statement '..UptoSaid' is the law's where the arguments, and the package variables that the reading takes, are together of bulk at most 1048576: NARROWER than '..Said'. Prove '..Said' where nothing that the law and all that it calls make is longer than what came in: it says more and counts as full. Else prove '..UptoSaid'. A law counts once. -/
mutual
def uptoBulk {H : Type} : DataW H → Nat
  | .lit (.string bytes) => bytes.length + 1
  | .lit _ => 1
  | .nil => 1
  | .ptr d => uptoBulk d + 1
  | .slice elems spare => uptoBulkAll elems + uptoBulkAll spare + 1
  | .agg parts => uptoBulkAll parts + 1
  | .iface _ d => uptoBulk d + 1
  | .map entries => uptoBulkEntries entries + 1
  | .held _ => 1
def uptoBulkAll {H : Type} : List (DataW H) → Nat
  | [] => 0
  | d :: r => uptoBulk d + uptoBulkAll r
def uptoBulkEntries {H : Type} : List (Lit × DataW H) → Nat
  | [] => 0
  | x :: r => uptoBulkEntry x + uptoBulkEntries r
def uptoBulkEntry {H : Type} : Lit × DataW H → Nat
  | (.string bytes, d) => bytes.length + uptoBulk d + 1
  | (_, d) => uptoBulk d + 1
 end
def uptoSmall : (H : Type) → List (DataW H) → Bool := fun _ ds => decide (uptoBulkAll ds ≤ 1048576)
def OpenSpec.upto (s : _root_.Go.ChangeSpec) : _root_.Go.OpenSpec := { _root_.Go.OpenSpec.ofChange s with cond := some uptoSmall }

/-- 'epicyclelaw12.Radix2Sizes', WHERE WHAT IT READS IS OF BULK AT MOST 1048576: true; the input reads as it did. -/
def radix2SizesUptoRow : OpenClaim := { program := "ythhkljfgkihfgaagreat", sum := "fd1999da129a7eeb1e1d50658fb5301f240231089e3a9219da9e99ea740b89d0", func := "epicycle/epicyclelaw12.Radix2Sizes", spec := "radix2Sizes", inPlace := ["math/bits.Add64"], unfollowed := true, recurses := true, named := ["math/bits.divideError", "math/bits.overflowError"], apart := false, narrowed := true }
def Radix2SizesUptoSaid : Prop := radix2SizesUptoRow.holds Tryz.pinned (OpenSpec.upto radix2SizesSpec)

/-- 'epicyclelaw12.Radix2Is', WHERE WHAT IT READS IS OF BULK AT MOST 1048576: true; the input reads as it did. -/
def radix2IsUptoRow : OpenClaim := { program := "ythhkljfgkihfgaagreat", sum := "fd1999da129a7eeb1e1d50658fb5301f240231089e3a9219da9e99ea740b89d0", func := "epicycle/epicyclelaw12.Radix2Is", spec := "radix2Is", inPlace := ["math/bits.Add64"], unfollowed := true, recurses := true, named := ["math/bits.divideError", "math/bits.overflowError"], apart := false, narrowed := true }
def Radix2IsUptoSaid : Prop := radix2IsUptoRow.holds Tryz.pinned (OpenSpec.upto radix2IsSpec)

/-- 'epicyclelaw12.Radix2Back', WHERE WHAT IT READS IS OF BULK AT MOST 1048576: true; the input reads as it did. -/
def radix2BackUptoRow : OpenClaim := { program := "ythhkljfgkihfgaagreat", sum := "fd1999da129a7eeb1e1d50658fb5301f240231089e3a9219da9e99ea740b89d0", func := "epicycle/epicyclelaw12.Radix2Back", spec := "radix2Back", inPlace := ["math/bits.Add64"], unfollowed := true, recurses := true, named := ["math/bits.divideError", "math/bits.overflowError"], apart := false, narrowed := true }
def Radix2BackUptoSaid : Prop := radix2BackUptoRow.holds Tryz.pinned (OpenSpec.upto radix2BackSpec)

/-- 'epicyclelaw12.Radix2Folds', WHERE WHAT IT READS IS OF BULK AT MOST 1048576: true; the input reads as it did. -/
def radix2FoldsUptoRow : OpenClaim := { program := "ythhkljfgkihfgaagreat", sum := "fd1999da129a7eeb1e1d50658fb5301f240231089e3a9219da9e99ea740b89d0", func := "epicycle/epicyclelaw12.Radix2Folds", spec := "radix2Folds", inPlace := ["math/bits.Add64"], unfollowed := true, recurses := true, named := ["math/bits.divideError", "math/bits.overflowError"], apart := false, narrowed := true }
def Radix2FoldsUptoSaid : Prop := radix2FoldsUptoRow.holds Tryz.pinned (OpenSpec.upto radix2FoldsSpec)

/-- 'epicyclelaw17.ChirpPairs', WHERE WHAT IT READS IS OF BULK AT MOST 1048576: true; the input reads as it did. -/
def chirpPairsUptoRow : OpenClaim := { program := "ythhkljfgkihfgaagreat", sum := "fd1999da129a7eeb1e1d50658fb5301f240231089e3a9219da9e99ea740b89d0", func := "epicycle/epicyclelaw17.ChirpPairs", spec := "chirpPairs", inPlace := ["math/bits.Add64"], unfollowed := true, recurses := true, named := ["math/bits.divideError", "math/bits.overflowError"], apart := false, narrowed := true }
def ChirpPairsUptoSaid : Prop := chirpPairsUptoRow.holds Tryz.pinned (OpenSpec.upto chirpPairsSpec)

/-- 'epicyclelaw13.Radix4Same', WHERE WHAT IT READS IS OF BULK AT MOST 1048576: true; the input reads as it did. -/
def radix4SameUptoRow : OpenClaim := { program := "ythhkljfgkihfgaagreat", sum := "fd1999da129a7eeb1e1d50658fb5301f240231089e3a9219da9e99ea740b89d0", func := "epicycle/epicyclelaw13.Radix4Same", spec := "radix4Same", inPlace := ["math/bits.Add64"], unfollowed := true, recurses := true, named := ["math/bits.divideError", "math/bits.overflowError"], apart := false, narrowed := true }
def Radix4SameUptoSaid : Prop := radix4SameUptoRow.holds Tryz.pinned (OpenSpec.upto radix4SameSpec)

/-- 'epicyclelaw17.ChirpIs', WHERE WHAT IT READS IS OF BULK AT MOST 1048576: true; the input reads as it did. -/
def chirpIsUptoRow : OpenClaim := { program := "ythhkljfgkihfgaagreat", sum := "fd1999da129a7eeb1e1d50658fb5301f240231089e3a9219da9e99ea740b89d0", func := "epicycle/epicyclelaw17.ChirpIs", spec := "chirpIs", inPlace := ["math/bits.Add64"], unfollowed := true, recurses := true, named := ["math/bits.divideError", "math/bits.overflowError"], apart := false, narrowed := true }
def ChirpIsUptoSaid : Prop := chirpIsUptoRow.holds Tryz.pinned (OpenSpec.upto chirpIsSpec)

/-- 'epicyclelaw17.ChirpSizes', WHERE WHAT IT READS IS OF BULK AT MOST 1048576: true; the input reads as it did. -/
def chirpSizesUptoRow : OpenClaim := { program := "ythhkljfgkihfgaagreat", sum := "fd1999da129a7eeb1e1d50658fb5301f240231089e3a9219da9e99ea740b89d0", func := "epicycle/epicyclelaw17.ChirpSizes", spec := "chirpSizes", inPlace := ["math/bits.Add64"], unfollowed := true, recurses := true, named := ["math/bits.divideError", "math/bits.overflowError"], apart := false, narrowed := true }
def ChirpSizesUptoSaid : Prop := chirpSizesUptoRow.holds Tryz.pinned (OpenSpec.upto chirpSizesSpec)

/-- 'epicyclelaw17.ChirpBack', WHERE WHAT IT READS IS OF BULK AT MOST 1048576: true; the input reads as it did. -/
def chirpBackUptoRow : OpenClaim := { program := "ythhkljfgkihfgaagreat", sum := "fd1999da129a7eeb1e1d50658fb5301f240231089e3a9219da9e99ea740b89d0", func := "epicycle/epicyclelaw17.ChirpBack", spec := "chirpBack", inPlace := ["math/bits.Add64"], unfollowed := true, recurses := true, named := ["math/bits.divideError", "math/bits.overflowError"], apart := false, narrowed := true }
def ChirpBackUptoSaid : Prop := chirpBackUptoRow.holds Tryz.pinned (OpenSpec.upto chirpBackSpec)

/-- 'epicyclelaw16.RaderIs', WHERE WHAT IT READS IS OF BULK AT MOST 1048576: true; the input reads as it did. -/
def raderIsUptoRow : OpenClaim := { program := "ythhkljfgkihfgaagreat", sum := "fd1999da129a7eeb1e1d50658fb5301f240231089e3a9219da9e99ea740b89d0", func := "epicycle/epicyclelaw16.RaderIs", spec := "raderIs", inPlace := ["math/bits.Add64"], unfollowed := true, recurses := true, named := ["math/bits.divideError", "math/bits.overflowError"], apart := false, narrowed := true }
def RaderIsUptoSaid : Prop := raderIsUptoRow.holds Tryz.pinned (OpenSpec.upto raderIsSpec)

/-- 'epicyclelaw16.RaderBack', WHERE WHAT IT READS IS OF BULK AT MOST 1048576: true; the input reads as it did. -/
def raderBackUptoRow : OpenClaim := { program := "ythhkljfgkihfgaagreat", sum := "fd1999da129a7eeb1e1d50658fb5301f240231089e3a9219da9e99ea740b89d0", func := "epicycle/epicyclelaw16.RaderBack", spec := "raderBack", inPlace := ["math/bits.Add64"], unfollowed := true, recurses := true, named := ["math/bits.divideError", "math/bits.overflowError"], apart := false, narrowed := true }
def RaderBackUptoSaid : Prop := raderBackUptoRow.holds Tryz.pinned (OpenSpec.upto raderBackSpec)

/-- 'epicyclelaw25.SeriesInverts', WHERE WHAT IT READS IS OF BULK AT MOST 1048576: true; the input reads as it did. -/
def seriesInvertsUptoRow : OpenClaim := { program := "ythhkljfgkihfgaagreat", sum := "fd1999da129a7eeb1e1d50658fb5301f240231089e3a9219da9e99ea740b89d0", func := "epicycle/epicyclelaw25.SeriesInverts", spec := "seriesInverts", inPlace := ["math/bits.Add64"], unfollowed := true, recurses := true, named := ["math/bits.divideError", "math/bits.overflowError"], apart := false, narrowed := true }
def SeriesInvertsUptoSaid : Prop := seriesInvertsUptoRow.holds Tryz.pinned (OpenSpec.upto seriesInvertsSpec)

/-- 'epicyclelaw25.SeriesDivides', WHERE WHAT IT READS IS OF BULK AT MOST 1048576: true; the input reads as it did. -/
def seriesDividesUptoRow : OpenClaim := { program := "ythhkljfgkihfgaagreat", sum := "fd1999da129a7eeb1e1d50658fb5301f240231089e3a9219da9e99ea740b89d0", func := "epicycle/epicyclelaw25.SeriesDivides", spec := "seriesDivides", inPlace := ["math/bits.Add64"], unfollowed := true, recurses := true, named := ["math/bits.divideError", "math/bits.overflowError"], apart := false, narrowed := true }
def SeriesDividesUptoSaid : Prop := seriesDividesUptoRow.holds Tryz.pinned (OpenSpec.upto seriesDividesSpec)

/-- 'epicyclelaw25.SeriesMultiplies', WHERE WHAT IT READS IS OF BULK AT MOST 1048576: true; the input reads as it did. -/
def seriesMultipliesUptoRow : OpenClaim := { program := "ythhkljfgkihfgaagreat", sum := "fd1999da129a7eeb1e1d50658fb5301f240231089e3a9219da9e99ea740b89d0", func := "epicycle/epicyclelaw25.SeriesMultiplies", spec := "seriesMultiplies", inPlace := ["math/bits.Add64"], unfollowed := true, recurses := true, named := ["math/bits.divideError", "math/bits.overflowError"], apart := false, narrowed := true }
def SeriesMultipliesUptoSaid : Prop := seriesMultipliesUptoRow.holds Tryz.pinned (OpenSpec.upto seriesMultipliesSpec)

/-- 'epicyclelaw25.SeriesBinomial', WHERE WHAT IT READS IS OF BULK AT MOST 1048576: true; the input reads as it did. -/
def seriesBinomialUptoRow : OpenClaim := { program := "ythhkljfgkihfgaagreat", sum := "fd1999da129a7eeb1e1d50658fb5301f240231089e3a9219da9e99ea740b89d0", func := "epicycle/epicyclelaw25.SeriesBinomial", spec := "seriesBinomial", inPlace := ["math/bits.Add64"], unfollowed := true, recurses := true, named := ["math/bits.divideError", "math/bits.overflowError"], apart := false, narrowed := true }
def SeriesBinomialUptoSaid : Prop := seriesBinomialUptoRow.holds Tryz.pinned (OpenSpec.upto seriesBinomialSpec)

/-- 'epicyclelaw25.SeriesDerives', WHERE WHAT IT READS IS OF BULK AT MOST 1048576: true; the input reads as it did. -/
def seriesDerivesUptoRow : OpenClaim := { program := "ythhkljfgkihfgaagreat", sum := "fd1999da129a7eeb1e1d50658fb5301f240231089e3a9219da9e99ea740b89d0", func := "epicycle/epicyclelaw25.SeriesDerives", spec := "seriesDerives", inPlace := ["math/bits.Add64"], unfollowed := true, recurses := true, named := ["math/bits.divideError", "math/bits.overflowError"], apart := false, narrowed := true }
def SeriesDerivesUptoSaid : Prop := seriesDerivesUptoRow.holds Tryz.pinned (OpenSpec.upto seriesDerivesSpec)

end Rows
end Go.Proofs.YthhkljfgkihfgaaGreat
