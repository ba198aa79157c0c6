/- limbs: sums and differences. -/
import Derived.Test.YtmalmijdjhkklaaGreatArr
import Derived.Test.YtmalmijdjhkklaaGreatWMontModB
import Derived.Deep.RegionHeld3
set_option linter.unusedVariables false
set_option linter.unusedSimpArgs false
set_option linter.unusedSectionVars false
section
/- limbs: sums and differences. -/
namespace Go.Proofs.YtmalmijdjhkklaaGreat
open Go.RowKit
def cyA (a b i : Nat) : Nat := (a % 18446744073709551616 ^ i + b % 18446744073709551616 ^ i) / 18446744073709551616 ^ i
theorem cyA_zero (a b : Nat) : cyA a b 0 = 0 := by simp [cyA, Nat.mod_one]
theorem cyA_le (a b i : Nat) : cyA a b i ≤ 1 := by
  unfold cyA
  have hP : 0 < 18446744073709551616 ^ i := Nat.pow_pos (by omega)
  have h1 := Nat.mod_lt a hP
  have h2 := Nat.mod_lt b hP
  generalize 18446744073709551616 ^ i = P at *
  exact Nat.lt_succ_iff.1 (Nat.div_lt_of_lt_mul (by omega))
theorem cyA_next (a b i : Nat) (hi : i < 3) : (wd a i + wd b i + cyA a b i) / 18446744073709551616 = cyA a b (i + 1) ∧ (wd a i + wd b i + cyA a b i) % 18446744073709551616 = wd (a + b) i := by
  unfold cyA wd
  match i, hi with
  | 0, _ => simp only [Nat.reducePow, Nat.reduceAdd]; omega
  | 1, _ => simp only [Nat.reducePow, Nat.reduceAdd]; omega
  | 2, _ => simp only [Nat.reducePow, Nat.reduceAdd]; omega
theorem add_run (a b i : Nat) (hlt : i < 3) (W : World) : (callFunc 183 #[.int .u64 (wd a i : Nat), .int .u64 (wd b i : Nat), .int .u64 (cyA a b i : Nat)]).run Tryz.prog W = .ok (.value (.tuple #[.int .u64 (wd (a + b) i : Nat), .int .u64 (cyA a b (i + 1) : Nat)])) W := by
  have b0 := wd_lt a i
  have b1 := wd_lt b i
  have b2 := cyA_le a b i
  obtain ⟨n1, n2⟩ := cyA_next a b i hlt
  rw [add64_run _ _ _ (by omega) (by omega) (by omega) (by omega) (by omega) (by omega), ← n1, ← n2]
  have e1 : (((wd a i + wd b i + cyA a b i : Nat) : Int)) = (wd a i : Int) + (wd b i : Int) + (cyA a b i : Int) := by omega
  rw [Int.natCast_emod, Int.natCast_ediv, e1]; rfl
/-- What is taken away: the borrow. -/
def cyS (a b i : Nat) : Nat := if a % 18446744073709551616 ^ i < b % 18446744073709551616 ^ i then 1 else 0
theorem cyS_zero (a b : Nat) : cyS a b 0 = 0 := by simp [cyS, Nat.mod_one]
theorem cyS_le (a b i : Nat) : cyS a b i ≤ 1 := by unfold cyS; split <;> omega
def dif (a b : Nat) : Nat := a % 6277101735386680763835789423207666416102355444464034512896 + 6277101735386680763835789423207666416102355444464034512896 - b % 6277101735386680763835789423207666416102355444464034512896
theorem cyS_next (a b i : Nat) (hi : i < 3) : (if wd a i < wd b i + cyS a b i then 1 else 0) = cyS a b (i + 1) ∧ (wd a i + 18446744073709551616 - wd b i - cyS a b i) % 18446744073709551616 = wd (dif a b) i := by
  unfold cyS wd dif
  match i, hi with
  | 0, _ => simp only [Nat.reducePow, Nat.reduceAdd, Nat.mod_one, Nat.div_one]; constructor <;> (repeat' split) <;> omega
  | 1, _ => simp only [Nat.reducePow, Nat.reduceAdd]; constructor <;> (repeat' split) <;> omega
  | 2, _ => simp only [Nat.reducePow, Nat.reduceAdd]; constructor <;> (repeat' split) <;> omega
def sub64Ent : Array Value → Sem Value := fun args => do
  let (x, y, b) ← Extern.MathBitsCarry.three "Sub64" args
  pure (Extern.MathBitsCarry.pair ((x + Extern.MathBitsCarry.m64 - y - b) % Extern.MathBitsCarry.m64) (if x < y + b then 1 else 0))
theorem run_sub64' {P : Program} (x y b : Nat) (hb : b ≤ 1) (w : World) :
    (sub64Ent #[.int .u64 x, .int .u64 y, .int .u64 b]).run P w =
      .ok (.tuple #[.int .u64 (((x + 18446744073709551616 - y - b) % 18446744073709551616 : Nat) : Int), .int .u64 ((if x < y + b then 1 else 0 : Nat) : Int)]) w := by
  have : b = 0 ∨ b = 1 := by omega
  rcases this with rfl | rfl <;> rfl
end Go.Proofs.YtmalmijdjhkklaaGreat
end

section
/- limbs: products by a word, comparing, rests, halves, signs. -/
namespace Go.Proofs.YtmalmijdjhkklaaGreat
open Go.RowKit
def cyM (a k i : Nat) : Nat := (a % 18446744073709551616 ^ i) * k / 18446744073709551616 ^ i
theorem cyM_zero (a k : Nat) : cyM a k 0 = 0 := by simp [cyM, Nat.mod_one]
theorem cyM_le (a k i : Nat) : cyM a k i ≤ k := by
  unfold cyM
  have hP : 0 < 18446744073709551616 ^ i := Nat.pow_pos (by omega)
  have h1 := Nat.mod_lt a hP
  generalize 18446744073709551616 ^ i = P at *
  exact Nat.div_le_of_le_mul (Nat.mul_le_mul_right k (Nat.le_of_lt h1))
theorem mod_wd (a i : Nat) : a % 18446744073709551616 ^ (i + 1) = a % 18446744073709551616 ^ i + 18446744073709551616 ^ i * wd a i := by
  unfold wd
  rw [Nat.pow_succ, Nat.mod_mul]
theorem cyM_next (a k i : Nat) : (wd a i * k + cyM a k i) / 18446744073709551616 = cyM a k (i + 1) ∧ (wd a i * k + cyM a k i) % 18446744073709551616 = wd (a * k) i := by
  have hP : 0 < 18446744073709551616 ^ i := Nat.pow_pos (by omega)
  constructor
  · unfold cyM
    rw [mod_wd, Nat.add_mul, Nat.mul_assoc, Nat.pow_succ, ← Nat.div_div_eq_div_mul, Nat.add_mul_div_left _ _ hP, Nat.add_comm]
  · have h1 : a * k / 18446744073709551616 ^ i = cyM a k i + (a / 18446744073709551616 ^ i) * k := by
      unfold cyM
      have h2 : a * k = (a % 18446744073709551616 ^ i) * k + 18446744073709551616 ^ i * ((a / 18446744073709551616 ^ i) * k) := by
        rw [← Nat.mul_assoc, ← Nat.add_mul, Nat.mod_add_div]
      conv => lhs; rw [h2]
      rw [Nat.add_mul_div_left _ _ hP]
    unfold wd
    rw [h1]
    have h3 := Nat.div_add_mod (a / 18446744073709551616 ^ i) 18446744073709551616
    generalize a / 18446744073709551616 ^ i = q at *
    have h4 : q * k = (q % 18446744073709551616) * k + 18446744073709551616 * ((q / 18446744073709551616) * k) := by
      rw [← Nat.mul_assoc, ← Nat.add_mul, Nat.mod_add_div]
    rw [h4]
    generalize q % 18446744073709551616 * k = u
    generalize q / 18446744073709551616 * k = v
    omega
end Go.Proofs.YtmalmijdjhkklaaGreat
end

section
/- limbs: comparing, rests, halves, signs. -/
namespace Go.Proofs.YtmalmijdjhkklaaGreat
open Go.RowKit
theorem div_wd (a i : Nat) : a / 18446744073709551616 ^ i = 18446744073709551616 * (a / 18446744073709551616 ^ (i + 1)) + wd a i := by
  unfold wd
  have h := Nat.div_add_mod (a / 18446744073709551616 ^ i) 18446744073709551616
  rw [Nat.pow_succ, ← Nat.div_div_eq_div_mul]; omega
def cmpN (a b : Nat) : Int := if a < b then -1 else if b < a then 1 else 0
theorem lt_of_div {x y P : Nat} (h : x / P < y / P) : x < y := by
  rcases Nat.lt_or_ge x y with h1 | h1
  · exact h1
  · have := Nat.div_le_div_right (c := P) h1; omega
theorem cmp_lt {a b i : Nat} (h : a / 18446744073709551616 ^ (i + 1) = b / 18446744073709551616 ^ (i + 1)) (hlt : wd a i < wd b i) : cmpN a b = -1 := by
  have h1 : a < b := lt_of_div (P := 18446744073709551616 ^ i) (by rw [div_wd a i, div_wd b i, h]; omega)
  unfold cmpN; rw [if_pos h1]
theorem cmp_gt {a b i : Nat} (h : a / 18446744073709551616 ^ (i + 1) = b / 18446744073709551616 ^ (i + 1)) (hlt : wd b i < wd a i) : cmpN a b = 1 := by
  have h1 : b < a := lt_of_div (P := 18446744073709551616 ^ i) (by rw [div_wd a i, div_wd b i, h]; omega)
  unfold cmpN; rw [if_neg (by omega), if_pos h1]
theorem cmp_next {a b i : Nat} (h : a / 18446744073709551616 ^ (i + 1) = b / 18446744073709551616 ^ (i + 1)) (h1 : ¬ wd a i < wd b i) (h2 : ¬ wd b i < wd a i) : a / 18446744073709551616 ^ i = b / 18446744073709551616 ^ i := by
  rw [div_wd a i, div_wd b i, h]; omega
theorem or_join' (x y : Int) (s : Nat) (hs : s ≤ 63) (hx0 : 0 ≤ x) (hx : x < 18446744073709551616) (hy0 : 0 ≤ y) (hd : x % ((2 ^ s : Nat) : Int) = 0) (hy : y < ((2 ^ s : Nat) : Int)) : bits .or .u64 y x = y + x := by
  rw [Int.add_comm, ← or_join x y s hs hx0 hx hy0 hd hy]
  obtain ⟨a, rfl⟩ := Int.eq_ofNat_of_zero_le hx0
  obtain ⟨b, rfl⟩ := Int.eq_ofNat_of_zero_le hy0
  have hp : 2 ^ s ≤ 2 ^ 63 := Nat.pow_le_pow_right (by omega) hs
  rw [u64_or_nat a b (by omega) (by omega), u64_or_nat b a (by omega) (by omega), Nat.or_comm]
end Go.Proofs.YtmalmijdjhkklaaGreat
end
