/- limbs: halves, signs. -/
import Derived.Test.YtmalmijdjhkklaaGreatWLimALimBLimC
import Derived.Test.YtmalmijdjhkklaaGreatQTail
set_option linter.unusedVariables false
set_option linter.unusedSimpArgs false
set_option linter.unusedSectionVars false
section
/- limbs: halves, signs. -/
namespace Go.Proofs.YtmalmijdjhkklaaGreat
open Go.RowKit
theorem half_wd (a i : Nat) (hi : i < 3) (ha : a < 6277101735386680763835789423207666416102355444464034512896) : wd (a / 2) i = wd a i / 2 + (if i + 1 < 3 then 9223372036854775808 * (wd a (i + 1) % 2) else 0) := by
  unfold wd
  match i, hi with
  | 0, _ => simp only [Nat.reducePow, Nat.reduceAdd]; simp; omega
  | 1, _ => simp only [Nat.reducePow, Nat.reduceAdd]; simp; omega
  | 2, _ => simp only [Nat.reducePow, Nat.reduceAdd]; simp; omega
theorem set_set (c : Array Value) (i : Nat) (u v : Value) : (c.setIfInBounds i u).setIfInBounds i v = c.setIfInBounds i v := by
  apply Array.ext_getElem?
  intro j
  simp only [Array.getElem?_setIfInBounds, Array.size_setIfInBounds]
  by_cases h : i = j
  · simp [h]
  · simp [h]
end Go.Proofs.YtmalmijdjhkklaaGreat
end

section
/- epicycleref01: bits, words, comparing, rests, sums, moving. -/
namespace Go.Proofs.YtmalmijdjhkklaaGreat
open Go.RowKit
theorem two_le {i n : Nat} (h : i ≤ n) : 2 ^ i ≤ 2 ^ n := Nat.pow_le_pow_right (by omega) h
theorem bit_words {a i : Nat} : a.testBit i = decide (wd a (i / 64) / 2 ^ (i % 64) % 2 = 1) := by
  rw [wd_pow]
  have h1 : (a / 2 ^ (64 * (i / 64)) % 2 ^ 64).testBit (i % 64) = a.testBit i := by
    rw [Nat.testBit_mod_two_pow, Nat.testBit_div_two_pow]
    have e2 : i % 64 + 64 * (i / 64) = i := by omega
    have l : i % 64 < 64 := Nat.mod_lt _ (by omega)
    rw [e2]; simp [l]
  rw [← h1, Nat.testBit_eq_decide_div_mod_eq]
end Go.Proofs.YtmalmijdjhkklaaGreat
end

section
/- epicycleref01: moving, products, turning, words; epicycleref23. -/
namespace Go.Proofs.YtmalmijdjhkklaaGreat
open Go.RowKit
theorem run_load_row {P : Program} {w : World} {G : Nat} {t ty : TypeId} {c : Array Value} {d : TypeDesc} (h : RowAt w G t c) (hu : P.underlying ty = some d) (hd : (match d with | .struct _ | .array _ _ => true | _ => false) = true) (hi : (P.info? ty).map (·.size) = some c.size) :
    (Instr.loadAt ty (.pointer (some ⟨G, 0, none⟩))).run P w = .ok (.agg c) w := by
  simp only [Instr.loadAt, Instr.sureAddr, Sem.run_bind, Sem.run_pure, Result.andThen]
  exact run_loadVar_row w G t ty c (0, 0) d h hu hd hi
theorem yieldsIf_load_row {P : Program} {ops : Array Oper} {S : World → Prop} {op : Oper} {a : Act} (hw : Region.wanted op (yielded ops a.tmps) = true) (ty : TypeId) (x : Operand) (ho : op.op = .load ty x)
    (G : Nat) (hx : a.eval x = .pointer (some ⟨G, 0, none⟩)) (t : TypeId) (c : Array Value) (d : TypeDesc) (hS : ∀ w, S w → RowAt w G t c)
    (hu : P.underlying ty = some d) (hd : (match d with | .struct _ | .array _ _ => true | _ => false) = true) (hi : (P.info? ty).map (·.size) = some c.size) : YieldsIf P ops S op (.agg c) a :=
  .inl ⟨hw, fun w hw' => by
    unfold execOp
    simp only [ho, hx, Instr.loadAt, Instr.sureAddr, Sem.run_bind, Sem.run_pure, Result.andThen_ok, run_loadVar_row w G t ty c (0, 0) d (hS w hw') hu hd hi]⟩
end Go.Proofs.YtmalmijdjhkklaaGreat
end
