/-
  No cell of these rows narrows 'for every input' (looked for: loops, veiled, ifaces, maps, wideKeys, modest, calm, conditions, laid).
  DERIVED. THE GIVEN ROWS OF THIS SEAT. 10 by the template 'for every input the law returns true; each argument reads behind the call as it read before'; 0 by the template 'total and deterministic' (their statements: YtgdadkkiefkimaaGreatTotals.lean).
  GIVEN WITH THE SEED: the statements are not yours to turn. If you find one false, say at which input.
  Laid BY PROGRAM, IN A SANDBOX (cutbox-rows.mjs): the forced cells as the released guide's own fill.sh prints them over the translation 686a27c98fafc965… (all of the seat's roots in one cut). By AI agents, Wed Nov 11 2026. No macro, syntax, notation, axiom, sorry.
-/
import Derived.Test.YtgdadkkiefkimaaGreatChecked
import GoSem.Claim
import GoSem.ClaimJoined
import GoSem.ClaimMapViews
import Derived.JoinedTies
import Derived.KernelRfl
namespace Go.Proofs.YtgdadkkiefkimaaGreat
/- THE CELL 'sum', in the pinned program and in every row, IS THE sha256 OF THE DUMP (.gsa) THAT YtgdadkkiefkimaaGreatProg.lean LOADS. Nothing in Lean hashes anything: it is a label: what it is worth is what the hold of that sum in a sandbox is worth. -/
noncomputable def Tryz.pinned : Pinned := { name := "ytgdadkkiefkimaagreat", sum := "686a27c98fafc965d94a7896c27e24223c0d7c7838c3fa7390623c01f408f5fa", checked := Tryz.checked }
namespace Rows
def none {H : Type} : Left H := { results := [], args := [] }

/-- 'epicyclelaw18.PlanFits': WHATEVER THE INPUT: true; the input reads as it did. -/
def planFitsSpec : ChangeSpec := { name := "planFits", fn := fun _ => fun
  | [d1, d2] => { results := [.lit (.bool true)], args := [d1, d2] }
  | _ => none }
def planFitsRow : OpenClaim := { program := "ytgdadkkiefkimaagreat", sum := "686a27c98fafc965d94a7896c27e24223c0d7c7838c3fa7390623c01f408f5fa", func := "epicycle/epicyclelaw18.PlanFits", spec := "planFits", inPlace := ["math/bits.Add64"], unfollowed := true, recurses := true, named := ["math/bits.divideError", "math/bits.overflowError"], plainKeys := false, apart := false }
def PlanFitsSaid : Prop := planFitsRow.holds Tryz.pinned (OpenSpec.ofChange planFitsSpec)

/-- ITS FALSE NEIGHBOUR: 'it returns false'. Refute it at one input. -/
def planFitsWrong : ChangeSpec := { name := "planFits", fn := fun _ => fun
  | [d1, d2] => { results := [.lit (.bool false)], args := [d1, d2] }
  | _ => none }
def PlanFitsWrongFalsely : Prop := planFitsRow.holds Tryz.pinned (OpenSpec.ofChange planFitsWrong)

/-- 'epicyclelaw18.PlanAll': WHATEVER THE INPUT: true; the input reads as it did. -/
def planAllSpec : ChangeSpec := { name := "planAll", fn := fun _ => fun
  | [d1, d2, d3] => { results := [.lit (.bool true)], args := [d1, d2, d3] }
  | _ => none }
def planAllRow : OpenClaim := { program := "ytgdadkkiefkimaagreat", sum := "686a27c98fafc965d94a7896c27e24223c0d7c7838c3fa7390623c01f408f5fa", func := "epicycle/epicyclelaw18.PlanAll", spec := "planAll", inPlace := ["math/bits.Add64"], unfollowed := true, recurses := true, named := ["math/bits.divideError", "math/bits.overflowError"], plainKeys := false, apart := false }
def PlanAllSaid : Prop := planAllRow.holds Tryz.pinned (OpenSpec.ofChange planAllSpec)

/-- ITS FALSE NEIGHBOUR: 'it returns false'. Refute it at one input. -/
def planAllWrong : ChangeSpec := { name := "planAll", fn := fun _ => fun
  | [d1, d2, d3] => { results := [.lit (.bool false)], args := [d1, d2, d3] }
  | _ => none }
def PlanAllWrongFalsely : Prop := planAllRow.holds Tryz.pinned (OpenSpec.ofChange planAllWrong)

/-- 'epicyclelaw18.PlanChooses': WHATEVER THE INPUT: true; the input reads as it did. -/
def planChoosesSpec : ChangeSpec := { name := "planChooses", fn := fun _ => fun
  | [d1, d2, d3] => { results := [.lit (.bool true)], args := [d1, d2, d3] }
  | _ => none }
def planChoosesRow : OpenClaim := { program := "ytgdadkkiefkimaagreat", sum := "686a27c98fafc965d94a7896c27e24223c0d7c7838c3fa7390623c01f408f5fa", func := "epicycle/epicyclelaw18.PlanChooses", spec := "planChooses", inPlace := ["math/bits.Add64"], unfollowed := true, recurses := true, named := ["math/bits.divideError", "math/bits.overflowError"], plainKeys := false, apart := false }
def PlanChoosesSaid : Prop := planChoosesRow.holds Tryz.pinned (OpenSpec.ofChange planChoosesSpec)

/-- ITS FALSE NEIGHBOUR: 'it returns false'. Refute it at one input. -/
def planChoosesWrong : ChangeSpec := { name := "planChooses", fn := fun _ => fun
  | [d1, d2, d3] => { results := [.lit (.bool false)], args := [d1, d2, d3] }
  | _ => none }
def PlanChoosesWrongFalsely : Prop := planChoosesRow.holds Tryz.pinned (OpenSpec.ofChange planChoosesWrong)

/-- 'epicyclelaw23.GarnerCentres': WHATEVER THE INPUT: true; the input reads as it did. -/
def garnerCentresSpec : ChangeSpec := { name := "garnerCentres", fn := fun _ => fun
  | [d1, d2, d3] => { results := [.lit (.bool true)], args := [d1, d2, d3] }
  | _ => none }
def garnerCentresRow : OpenClaim := { program := "ytgdadkkiefkimaagreat", sum := "686a27c98fafc965d94a7896c27e24223c0d7c7838c3fa7390623c01f408f5fa", func := "epicycle/epicyclelaw23.GarnerCentres", spec := "garnerCentres", inPlace := ["math/bits.Add64", "math/bits.Sub64"], unfollowed := true, recurses := true, named := ["math/bits.divideError", "math/bits.overflowError"], plainKeys := false, apart := false }
def GarnerCentresSaid : Prop := garnerCentresRow.holds Tryz.pinned (OpenSpec.ofChange garnerCentresSpec)

/-- ITS FALSE NEIGHBOUR: 'it returns false'. Refute it at one input. -/
def garnerCentresWrong : ChangeSpec := { name := "garnerCentres", fn := fun _ => fun
  | [d1, d2, d3] => { results := [.lit (.bool false)], args := [d1, d2, d3] }
  | _ => none }
def GarnerCentresWrongFalsely : Prop := garnerCentresRow.holds Tryz.pinned (OpenSpec.ofChange garnerCentresWrong)

/-- 'epicyclelaw23.GarnerMakes': WHATEVER THE INPUT: true; the input reads as it did. -/
def garnerMakesSpec : ChangeSpec := { name := "garnerMakes", fn := fun _ => fun
  | [d1, d2, d3] => { results := [.lit (.bool true)], args := [d1, d2, d3] }
  | _ => none }
def garnerMakesRow : OpenClaim := { program := "ytgdadkkiefkimaagreat", sum := "686a27c98fafc965d94a7896c27e24223c0d7c7838c3fa7390623c01f408f5fa", func := "epicycle/epicyclelaw23.GarnerMakes", spec := "garnerMakes", inPlace := ["math/bits.Add64", "math/bits.Sub64"], unfollowed := true, recurses := true, named := ["math/bits.divideError", "math/bits.overflowError"], plainKeys := false, apart := false }
def GarnerMakesSaid : Prop := garnerMakesRow.holds Tryz.pinned (OpenSpec.ofChange garnerMakesSpec)

/-- ITS FALSE NEIGHBOUR: 'it returns false'. Refute it at one input. -/
def garnerMakesWrong : ChangeSpec := { name := "garnerMakes", fn := fun _ => fun
  | [d1, d2, d3] => { results := [.lit (.bool false)], args := [d1, d2, d3] }
  | _ => none }
def GarnerMakesWrongFalsely : Prop := garnerMakesRow.holds Tryz.pinned (OpenSpec.ofChange garnerMakesWrong)

/-- 'epicyclelaw23.GarnerJoins': WHATEVER THE INPUT: true; the input reads as it did. -/
def garnerJoinsSpec : ChangeSpec := { name := "garnerJoins", fn := fun _ => fun
  | [d1, d2, d3] => { results := [.lit (.bool true)], args := [d1, d2, d3] }
  | _ => none }
def garnerJoinsRow : OpenClaim := { program := "ytgdadkkiefkimaagreat", sum := "686a27c98fafc965d94a7896c27e24223c0d7c7838c3fa7390623c01f408f5fa", func := "epicycle/epicyclelaw23.GarnerJoins", spec := "garnerJoins", inPlace := ["math/bits.Add64", "math/bits.Sub64"], unfollowed := true, recurses := true, named := ["math/bits.divideError", "math/bits.overflowError"], plainKeys := false, apart := false }
def GarnerJoinsSaid : Prop := garnerJoinsRow.holds Tryz.pinned (OpenSpec.ofChange garnerJoinsSpec)

/-- ITS FALSE NEIGHBOUR: 'it returns false'. Refute it at one input. -/
def garnerJoinsWrong : ChangeSpec := { name := "garnerJoins", fn := fun _ => fun
  | [d1, d2, d3] => { results := [.lit (.bool false)], args := [d1, d2, d3] }
  | _ => none }
def GarnerJoinsWrongFalsely : Prop := garnerJoinsRow.holds Tryz.pinned (OpenSpec.ofChange garnerJoinsWrong)

/-- 'epicyclelaw23.GarnerBack': WHATEVER THE INPUT: true; the input reads as it did. -/
def garnerBackSpec : ChangeSpec := { name := "garnerBack", fn := fun _ => fun
  | [d1, d2] => { results := [.lit (.bool true)], args := [d1, d2] }
  | _ => none }
def garnerBackRow : OpenClaim := { program := "ytgdadkkiefkimaagreat", sum := "686a27c98fafc965d94a7896c27e24223c0d7c7838c3fa7390623c01f408f5fa", func := "epicycle/epicyclelaw23.GarnerBack", spec := "garnerBack", inPlace := ["math/bits.Add64", "math/bits.Sub64"], unfollowed := true, recurses := true, named := ["math/bits.divideError", "math/bits.overflowError"], plainKeys := false, apart := false }
def GarnerBackSaid : Prop := garnerBackRow.holds Tryz.pinned (OpenSpec.ofChange garnerBackSpec)

/-- ITS FALSE NEIGHBOUR: 'it returns false'. Refute it at one input. -/
def garnerBackWrong : ChangeSpec := { name := "garnerBack", fn := fun _ => fun
  | [d1, d2] => { results := [.lit (.bool false)], args := [d1, d2] }
  | _ => none }
def GarnerBackWrongFalsely : Prop := garnerBackRow.holds Tryz.pinned (OpenSpec.ofChange garnerBackWrong)

/-- 'epicyclelaw23.GarnerSums': WHATEVER THE INPUT: true; the input reads as it did. -/
def garnerSumsSpec : ChangeSpec := { name := "garnerSums", fn := fun _ => fun
  | [d1, d2, d3] => { results := [.lit (.bool true)], args := [d1, d2, d3] }
  | _ => none }
def garnerSumsRow : OpenClaim := { program := "ytgdadkkiefkimaagreat", sum := "686a27c98fafc965d94a7896c27e24223c0d7c7838c3fa7390623c01f408f5fa", func := "epicycle/epicyclelaw23.GarnerSums", spec := "garnerSums", inPlace := ["math/bits.Add64", "math/bits.Sub64"], unfollowed := true, recurses := true, named := ["math/bits.divideError", "math/bits.overflowError"], plainKeys := false, apart := false }
def GarnerSumsSaid : Prop := garnerSumsRow.holds Tryz.pinned (OpenSpec.ofChange garnerSumsSpec)

/-- ITS FALSE NEIGHBOUR: 'it returns false'. Refute it at one input. -/
def garnerSumsWrong : ChangeSpec := { name := "garnerSums", fn := fun _ => fun
  | [d1, d2, d3] => { results := [.lit (.bool false)], args := [d1, d2, d3] }
  | _ => none }
def GarnerSumsWrongFalsely : Prop := garnerSumsRow.holds Tryz.pinned (OpenSpec.ofChange garnerSumsWrong)

/-- 'epicyclelaw13.Radix4Is': WHATEVER THE INPUT: true; the input reads as it did. -/
def radix4IsSpec : ChangeSpec := { name := "radix4Is", fn := fun _ => fun
  | [d1, d2, d3] => { results := [.lit (.bool true)], args := [d1, d2, d3] }
  | _ => none }
def radix4IsRow : OpenClaim := { program := "ytgdadkkiefkimaagreat", sum := "686a27c98fafc965d94a7896c27e24223c0d7c7838c3fa7390623c01f408f5fa", func := "epicycle/epicyclelaw13.Radix4Is", spec := "radix4Is", inPlace := ["math/bits.Add64"], unfollowed := true, recurses := true, named := ["math/bits.divideError", "math/bits.overflowError"], plainKeys := false, apart := false }
def Radix4IsSaid : Prop := radix4IsRow.holds Tryz.pinned (OpenSpec.ofChange radix4IsSpec)

/-- ITS FALSE NEIGHBOUR: 'it returns false'. Refute it at one input. -/
def radix4IsWrong : ChangeSpec := { name := "radix4Is", fn := fun _ => fun
  | [d1, d2, d3] => { results := [.lit (.bool false)], args := [d1, d2, d3] }
  | _ => none }
def Radix4IsWrongFalsely : Prop := radix4IsRow.holds Tryz.pinned (OpenSpec.ofChange radix4IsWrong)

/-- 'epicyclelaw13.Radix4Row': WHATEVER THE INPUT: true; the input reads as it did. -/
def radix4RowSpec : ChangeSpec := { name := "radix4Row", fn := fun _ => fun
  | [d1, d2, d3, d4] => { results := [.lit (.bool true)], args := [d1, d2, d3, d4] }
  | _ => none }
def radix4RowRow : OpenClaim := { program := "ytgdadkkiefkimaagreat", sum := "686a27c98fafc965d94a7896c27e24223c0d7c7838c3fa7390623c01f408f5fa", func := "epicycle/epicyclelaw13.Radix4Row", spec := "radix4Row", inPlace := ["math/bits.Add64"], unfollowed := true, recurses := true, named := ["math/bits.divideError", "math/bits.overflowError"], plainKeys := false, apart := false }
def Radix4RowSaid : Prop := radix4RowRow.holds Tryz.pinned (OpenSpec.ofChange radix4RowSpec)

/-- ITS FALSE NEIGHBOUR: 'it returns false'. Refute it at one input. -/
def radix4RowWrong : ChangeSpec := { name := "radix4Row", fn := fun _ => fun
  | [d1, d2, d3, d4] => { results := [.lit (.bool false)], args := [d1, d2, d3, d4] }
  | _ => none }
def Radix4RowWrongFalsely : Prop := radix4RowRow.holds Tryz.pinned (OpenSpec.ofChange radix4RowWrong)

/- THE SECOND FORM. 'bulk': how many values and letters a reading holds, each counted each time it is reached (what is shared counts as often as it is met; a slice's spare places count too). A statement '..UptoSaid' is the law's where the arguments, and the package variables that the reading takes, are together of bulk at most 1048576: NARROWER than '..Said'. Prove '..Said' where nothing that the law and all that it calls make is longer than what came in: it says more and counts as full. Else prove '..UptoSaid'. A law counts once. -/
mutual
def uptoBulk {H : Type} : DataW H → Nat
  | .lit (.string bytes) => bytes.length + 1
  | .lit _ => 1
  | .nil => 1
  | .ptr d => uptoBulk d + 1
  | .slice elems spare => uptoBulkAll elems + uptoBulkAll spare + 1
  | .agg parts => uptoBulkAll parts + 1
  | .iface _ d => uptoBulk d + 1
  | .map entries => uptoBulkEntries entries + 1
  | .held _ => 1
def uptoBulkAll {H : Type} : List (DataW H) → Nat
  | [] => 0
  | d :: r => uptoBulk d + uptoBulkAll r
def uptoBulkEntries {H : Type} : List (Lit × DataW H) → Nat
  | [] => 0
  | x :: r => uptoBulkEntry x + uptoBulkEntries r
def uptoBulkEntry {H : Type} : Lit × DataW H → Nat
  | (.string bytes, d) => bytes.length + uptoBulk d + 1
  | (_, d) => uptoBulk d + 1
 end
def uptoSmall : (H : Type) → List (DataW H) → Bool := fun _ ds => decide (uptoBulkAll ds ≤ 1048576)
def OpenSpec.upto (s : _root_.Go.ChangeSpec) : _root_.Go.OpenSpec := { _root_.Go.OpenSpec.ofChange s with cond := some uptoSmall }

/-- 'epicyclelaw18.PlanFits', WHERE WHAT IT READS IS OF BULK AT MOST 1048576: true; the input reads as it did. -/
def planFitsUptoRow : OpenClaim := { program := "ytgdadkkiefkimaagreat", sum := "686a27c98fafc965d94a7896c27e24223c0d7c7838c3fa7390623c01f408f5fa", func := "epicycle/epicyclelaw18.PlanFits", spec := "planFits", inPlace := ["math/bits.Add64"], unfollowed := true, recurses := true, named := ["math/bits.divideError", "math/bits.overflowError"], plainKeys := false, apart := false, narrowed := true }
def PlanFitsUptoSaid : Prop := planFitsUptoRow.holds Tryz.pinned (OpenSpec.upto planFitsSpec)

/-- 'epicyclelaw18.PlanAll', WHERE WHAT IT READS IS OF BULK AT MOST 1048576: true; the input reads as it did. -/
def planAllUptoRow : OpenClaim := { program := "ytgdadkkiefkimaagreat", sum := "686a27c98fafc965d94a7896c27e24223c0d7c7838c3fa7390623c01f408f5fa", func := "epicycle/epicyclelaw18.PlanAll", spec := "planAll", inPlace := ["math/bits.Add64"], unfollowed := true, recurses := true, named := ["math/bits.divideError", "math/bits.overflowError"], plainKeys := false, apart := false, narrowed := true }
def PlanAllUptoSaid : Prop := planAllUptoRow.holds Tryz.pinned (OpenSpec.upto planAllSpec)

/-- 'epicyclelaw18.PlanChooses', WHERE WHAT IT READS IS OF BULK AT MOST 1048576: true; the input reads as it did. -/
def planChoosesUptoRow : OpenClaim := { program := "ytgdadkkiefkimaagreat", sum := "686a27c98fafc965d94a7896c27e24223c0d7c7838c3fa7390623c01f408f5fa", func := "epicycle/epicyclelaw18.PlanChooses", spec := "planChooses", inPlace := ["math/bits.Add64"], unfollowed := true, recurses := true, named := ["math/bits.divideError", "math/bits.overflowError"], plainKeys := false, apart := false, narrowed := true }
def PlanChoosesUptoSaid : Prop := planChoosesUptoRow.holds Tryz.pinned (OpenSpec.upto planChoosesSpec)

/-- 'epicyclelaw23.GarnerCentres', WHERE WHAT IT READS IS OF BULK AT MOST 1048576: true; the input reads as it did. -/
def garnerCentresUptoRow : OpenClaim := { program := "ytgdadkkiefkimaagreat", sum := "686a27c98fafc965d94a7896c27e24223c0d7c7838c3fa7390623c01f408f5fa", func := "epicycle/epicyclelaw23.GarnerCentres", spec := "garnerCentres", inPlace := ["math/bits.Add64", "math/bits.Sub64"], unfollowed := true, recurses := true, named := ["math/bits.divideError", "math/bits.overflowError"], plainKeys := false, apart := false, narrowed := true }
def GarnerCentresUptoSaid : Prop := garnerCentresUptoRow.holds Tryz.pinned (OpenSpec.upto garnerCentresSpec)

/-- 'epicyclelaw23.GarnerMakes', WHERE WHAT IT READS IS OF BULK AT MOST 1048576: true; the input reads as it did. -/
def garnerMakesUptoRow : OpenClaim := { program := "ytgdadkkiefkimaagreat", sum := "686a27c98fafc965d94a7896c27e24223c0d7c7838c3fa7390623c01f408f5fa", func := "epicycle/epicyclelaw23.GarnerMakes", spec := "garnerMakes", inPlace := ["math/bits.Add64", "math/bits.Sub64"], unfollowed := true, recurses := true, named := ["math/bits.divideError", "math/bits.overflowError"], plainKeys := false, apart := false, narrowed := true }
def GarnerMakesUptoSaid : Prop := garnerMakesUptoRow.holds Tryz.pinned (OpenSpec.upto garnerMakesSpec)

/-- 'epicyclelaw23.GarnerJoins', WHERE WHAT IT READS IS OF BULK AT MOST 1048576: true; the input reads as it did. -/
def garnerJoinsUptoRow : OpenClaim := { program := "ytgdadkkiefkimaagreat", sum := "686a27c98fafc965d94a7896c27e24223c0d7c7838c3fa7390623c01f408f5fa", func := "epicycle/epicyclelaw23.GarnerJoins", spec := "garnerJoins", inPlace := ["math/bits.Add64", "math/bits.Sub64"], unfollowed := true, recurses := true, named := ["math/bits.divideError", "math/bits.overflowError"], plainKeys := false, apart := false, narrowed := true }
def GarnerJoinsUptoSaid : Prop := garnerJoinsUptoRow.holds Tryz.pinned (OpenSpec.upto garnerJoinsSpec)

/-- 'epicyclelaw23.GarnerBack', WHERE WHAT IT READS IS OF BULK AT MOST 1048576: true; the input reads as it did. -/
def garnerBackUptoRow : OpenClaim := { program := "ytgdadkkiefkimaagreat", sum := "686a27c98fafc965d94a7896c27e24223c0d7c7838c3fa7390623c01f408f5fa", func := "epicycle/epicyclelaw23.GarnerBack", spec := "garnerBack", inPlace := ["math/bits.Add64", "math/bits.Sub64"], unfollowed := true, recurses := true, named := ["math/bits.divideError", "math/bits.overflowError"], plainKeys := false, apart := false, narrowed := true }
def GarnerBackUptoSaid : Prop := garnerBackUptoRow.holds Tryz.pinned (OpenSpec.upto garnerBackSpec)

/-- 'epicyclelaw23.GarnerSums', WHERE WHAT IT READS IS OF BULK AT MOST 1048576: true; the input reads as it did. -/
def garnerSumsUptoRow : OpenClaim := { program := "ytgdadkkiefkimaagreat", sum := "686a27c98fafc965d94a7896c27e24223c0d7c7838c3fa7390623c01f408f5fa", func := "epicycle/epicyclelaw23.GarnerSums", spec := "garnerSums", inPlace := ["math/bits.Add64", "math/bits.Sub64"], unfollowed := true, recurses := true, named := ["math/bits.divideError", "math/bits.overflowError"], plainKeys := false, apart := false, narrowed := true }
def GarnerSumsUptoSaid : Prop := garnerSumsUptoRow.holds Tryz.pinned (OpenSpec.upto garnerSumsSpec)

/-- 'epicyclelaw13.Radix4Is', WHERE WHAT IT READS IS OF BULK AT MOST 1048576: true; the input reads as it did. -/
def radix4IsUptoRow : OpenClaim := { program := "ytgdadkkiefkimaagreat", sum := "686a27c98fafc965d94a7896c27e24223c0d7c7838c3fa7390623c01f408f5fa", func := "epicycle/epicyclelaw13.Radix4Is", spec := "radix4Is", inPlace := ["math/bits.Add64"], unfollowed := true, recurses := true, named := ["math/bits.divideError", "math/bits.overflowError"], plainKeys := false, apart := false, narrowed := true }
def Radix4IsUptoSaid : Prop := radix4IsUptoRow.holds Tryz.pinned (OpenSpec.upto radix4IsSpec)

/-- 'epicyclelaw13.Radix4Row', WHERE WHAT IT READS IS OF BULK AT MOST 1048576: true; the input reads as it did. -/
def radix4RowUptoRow : OpenClaim := { program := "ytgdadkkiefkimaagreat", sum := "686a27c98fafc965d94a7896c27e24223c0d7c7838c3fa7390623c01f408f5fa", func := "epicycle/epicyclelaw13.Radix4Row", spec := "radix4Row", inPlace := ["math/bits.Add64"], unfollowed := true, recurses := true, named := ["math/bits.divideError", "math/bits.overflowError"], plainKeys := false, apart := false, narrowed := true }
def Radix4RowUptoSaid : Prop := radix4RowUptoRow.holds Tryz.pinned (OpenSpec.upto radix4RowSpec)

end Rows
end Go.Proofs.YtgdadkkiefkimaaGreat
