/-
  No cell of these rows narrows 'for every input' (looked for: loops, veiled, ifaces, maps, wideKeys, modest, calm, conditions, laid).
  DERIVED. THE GIVEN ROWS OF THIS SEAT. 2 by the template 'for every input the law returns true; each argument reads behind the call as it read before'; 0 by the template 'total and deterministic' (their statements: YtgdadkkiefkimaaTotals.lean).
  GIVEN WITH THE SEED: the statements are not yours to turn. If you find one false, say at which input.
  Laid BY PROGRAM, IN A SANDBOX (cutbox-rows.mjs): the forced cells as the released guide's own fill.sh prints them over the translation 8b80dcbf1f6f8f5f… (all of the seat's roots in one cut). By AI agents, Wed Nov 11 2026. No macro, syntax, notation, axiom, sorry.
-/
import Derived.Test.YtgdadkkiefkimaaChecked
import GoSem.Claim
import GoSem.ClaimJoined
import GoSem.ClaimMapViews
import Derived.JoinedTies
import Derived.KernelRfl
namespace Go.Proofs.Ytgdadkkiefkimaa
/- THE CELL 'sum', in the pinned program and in every row, IS THE sha256 OF THE DUMP (.gsa) THAT YtgdadkkiefkimaaProg.lean LOADS. Nothing in Lean hashes anything: it is a label: what it is worth is what the hold of that sum in a sandbox is worth. -/
noncomputable def Try.pinned : Pinned := { name := "ytgdadkkiefkimaa", sum := "8b80dcbf1f6f8f5f1a3dabd03b129e7667c20da10718e371e5e6fe0e5ac3a8b3", checked := Try.checked }
namespace Rows
def none {H : Type} : Left H := { results := [], args := [] }

/-- 'epicyclelaw16.RaderOnce': WHATEVER THE INPUT: true; the input reads as it did. -/
def raderOnceSpec : ChangeSpec := { name := "raderOnce", fn := fun _ => fun
  | [d] => { results := [.lit (.bool true)], args := [d] }
  | _ => none }
def raderOnceRow : OpenClaim := { program := "ytgdadkkiefkimaa", sum := "8b80dcbf1f6f8f5f1a3dabd03b129e7667c20da10718e371e5e6fe0e5ac3a8b3", func := "epicycle/epicyclelaw16.RaderOnce", spec := "raderOnce", unfollowed := true, recurses := true, named := ["math/bits.divideError", "math/bits.overflowError"], apart := false }
def RaderOnceSaid : Prop := raderOnceRow.holds Try.pinned (OpenSpec.ofChange raderOnceSpec)

/-- ITS FALSE NEIGHBOUR: 'it returns false'. Refute it at one input. -/
def raderOnceWrong : ChangeSpec := { name := "raderOnce", fn := fun _ => fun
  | [d] => { results := [.lit (.bool false)], args := [d] }
  | _ => none }
def RaderOnceWrongFalsely : Prop := raderOnceRow.holds Try.pinned (OpenSpec.ofChange raderOnceWrong)

/-- 'epicyclelaw16.RaderWalks': WHATEVER THE INPUT: true; the input reads as it did. -/
def raderWalksSpec : ChangeSpec := { name := "raderWalks", fn := fun _ => fun
  | [d1, d2] => { results := [.lit (.bool true)], args := [d1, d2] }
  | _ => none }
def raderWalksRow : OpenClaim := { program := "ytgdadkkiefkimaa", sum := "8b80dcbf1f6f8f5f1a3dabd03b129e7667c20da10718e371e5e6fe0e5ac3a8b3", func := "epicycle/epicyclelaw16.RaderWalks", spec := "raderWalks", inPlace := ["math/bits.Add64"], unfollowed := true, recurses := true, named := ["math/bits.divideError", "math/bits.overflowError"], apart := false }
def RaderWalksSaid : Prop := raderWalksRow.holds Try.pinned (OpenSpec.ofChange raderWalksSpec)

/-- ITS FALSE NEIGHBOUR: 'it returns false'. Refute it at one input. -/
def raderWalksWrong : ChangeSpec := { name := "raderWalks", fn := fun _ => fun
  | [d1, d2] => { results := [.lit (.bool false)], args := [d1, d2] }
  | _ => none }
def RaderWalksWrongFalsely : Prop := raderWalksRow.holds Try.pinned (OpenSpec.ofChange raderWalksWrong)

/- THE SECOND FORM. 'bulk': how many values and letters a reading holds, each counted each time it is reached (what is shared counts as often as it is met; a slice's spare places count too). A statement '..UptoSaid' is the law's where the arguments, and the package variables that the reading takes, are together of bulk at most 1048576: NARROWER than '..Said'. Prove '..Said' where nothing that the law and all that it calls make is longer than what came in: it says more and counts as full. Else prove '..UptoSaid'. A law counts once. -/
mutual
def uptoBulk {H : Type} : DataW H → Nat
  | .lit (.string bytes) => bytes.length + 1
  | .lit _ => 1
  | .nil => 1
  | .ptr d => uptoBulk d + 1
  | .slice elems spare => uptoBulkAll elems + uptoBulkAll spare + 1
  | .agg parts => uptoBulkAll parts + 1
  | .iface _ d => uptoBulk d + 1
  | .map entries => uptoBulkEntries entries + 1
  | .held _ => 1
def uptoBulkAll {H : Type} : List (DataW H) → Nat
  | [] => 0
  | d :: r => uptoBulk d + uptoBulkAll r
def uptoBulkEntries {H : Type} : List (Lit × DataW H) → Nat
  | [] => 0
  | x :: r => uptoBulkEntry x + uptoBulkEntries r
def uptoBulkEntry {H : Type} : Lit × DataW H → Nat
  | (.string bytes, d) => bytes.length + uptoBulk d + 1
  | (_, d) => uptoBulk d + 1
 end
def uptoSmall : (H : Type) → List (DataW H) → Bool := fun _ ds => decide (uptoBulkAll ds ≤ 1048576)
def OpenSpec.upto (s : _root_.Go.ChangeSpec) : _root_.Go.OpenSpec := { _root_.Go.OpenSpec.ofChange s with cond := some uptoSmall }

/-- 'epicyclelaw16.RaderOnce', WHERE WHAT IT READS IS OF BULK AT MOST 1048576: true; the input reads as it did. -/
def raderOnceUptoRow : OpenClaim := { program := "ytgdadkkiefkimaa", sum := "8b80dcbf1f6f8f5f1a3dabd03b129e7667c20da10718e371e5e6fe0e5ac3a8b3", func := "epicycle/epicyclelaw16.RaderOnce", spec := "raderOnce", unfollowed := true, recurses := true, named := ["math/bits.divideError", "math/bits.overflowError"], apart := false, narrowed := true }
def RaderOnceUptoSaid : Prop := raderOnceUptoRow.holds Try.pinned (OpenSpec.upto raderOnceSpec)

/-- 'epicyclelaw16.RaderWalks', WHERE WHAT IT READS IS OF BULK AT MOST 1048576: true; the input reads as it did. -/
def raderWalksUptoRow : OpenClaim := { program := "ytgdadkkiefkimaa", sum := "8b80dcbf1f6f8f5f1a3dabd03b129e7667c20da10718e371e5e6fe0e5ac3a8b3", func := "epicycle/epicyclelaw16.RaderWalks", spec := "raderWalks", inPlace := ["math/bits.Add64"], unfollowed := true, recurses := true, named := ["math/bits.divideError", "math/bits.overflowError"], apart := false, narrowed := true }
def RaderWalksUptoSaid : Prop := raderWalksUptoRow.holds Try.pinned (OpenSpec.upto raderWalksSpec)

end Rows
end Go.Proofs.Ytgdadkkiefkimaa
