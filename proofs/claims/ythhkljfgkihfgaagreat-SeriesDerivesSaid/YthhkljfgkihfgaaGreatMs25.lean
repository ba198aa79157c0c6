/- The law's made, of a source. -/
import Derived.Test.YthhkljfgkihfgaaGreatMade25
import Derived.Test.YthhkljfgkihfgaaGreatWRef06MadeBArgA
set_option linter.unusedVariables false
set_option linter.unusedSimpArgs false
set_option linter.unusedSectionVars false
namespace Go.Proofs.YthhkljfgkihfgaaGreat
open Go.RowKit
theorem made_src {A : Option Addr} {c : Nat} {kind kk p : Int} {es : List Ent} {w : World} (h : SrcA w A c kind kk p es) :
    Calls Tryz.prog 55 #[.agg #[.int .i64 kind, .int .i64 kk, .int .u64 p, .slice A es.length c]] w
      fun r w' => ∃ v p' g', r = .returned (.tuple #[v, .int .u64 p', .int .u64 g']) ∧ MadeR v p' g' w' ∧ Below w.heap.size w w' :=
  made_any A c kind kk p es w h.p0 h.p1 h.hl h.hc h.hR h.hE
end Go.Proofs.YthhkljfgkihfgaaGreat
