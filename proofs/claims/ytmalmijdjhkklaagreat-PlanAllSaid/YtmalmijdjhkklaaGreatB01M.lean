/- Numbers of 256 bits, as lists of bits: plain laws. -/
import Derived.WalkKit
set_option linter.unusedVariables false
set_option linter.unusedSimpArgs false
set_option linter.unusedSectionVars false
namespace Go.Proofs.YtmalmijdjhkklaaGreat
open Go.RowKit

/-- The 256 bits of a number, as cells. -/
def bcells (n : Nat) : Array Value := ((List.range 256).map fun i => Value.bool (n.testBit i)).toArray
theorem bcells_size (n : Nat) : (bcells n).size = 256 := by simp [bcells]
theorem bcells_get (n i : Nat) (h : i < 256) : (bcells n)[i]? = some (.bool (n.testBit i)) := by
  simp [bcells, h]
theorem bcells_one (n : Nat) : ((bcells n).all fun v => v.oneCell') = true := by
  rw [Array.all_eq_true]
  intro i hi
  have h : (bcells n)[i]? = some (.bool (n.testBit i)) := bcells_get n i (by rw [bcells_size] at hi; exact hi)
  rw [Array.getElem?_eq_getElem hi] at h
  injection h with h
  rw [h]; rfl
theorem bcells_ext {a b : Nat} (h : ∀ i, i < 256 → a.testBit i = b.testBit i) : bcells a = bcells b := by
  unfold bcells
  congr 1
  apply List.map_congr_left
  intro i hi
  rw [h i (List.mem_range.1 hi)]
theorem bcells_mod (n : Nat) : bcells (n % 2 ^ 256) = bcells n :=
  bcells_ext fun i hi => by rw [Nat.testBit_mod_two_pow]; simp [hi]
theorem bcells_set {n m i : Nat} {v : Bool} (hi : i < 256) (hv : m.testBit i = v) (h : ∀ j, j < 256 → j ≠ i → m.testBit j = n.testBit j) :
    (bcells n).setIfInBounds i (.bool v) = bcells m := by
  apply Array.ext_getElem?
  intro j
  by_cases hj : j < 256
  · rw [bcells_get m j hj, Array.getElem?_setIfInBounds]
    by_cases e : i = j
    · subst e
      rw [if_pos rfl, if_pos (by rw [bcells_size]; exact hi), hv]
    · rw [if_neg e, bcells_get n j hj, h j hj (fun x => e x.symm)]
  · rw [Array.getElem?_eq_none (by simp [bcells_size]; omega), Array.getElem?_eq_none (by rw [bcells_size]; omega)]
/-- The low i bits laid, the next one set. -/
theorem bcells_next {n i : Nat} (hi : i < 256) : (bcells (n % 2 ^ i)).setIfInBounds i (.bool (n.testBit i)) = bcells (n % 2 ^ (i + 1)) :=
  bcells_set hi (by rw [Nat.testBit_mod_two_pow]; simp) fun j _ hne => by
    rw [Nat.testBit_mod_two_pow, Nat.testBit_mod_two_pow]
    congr 1
    simp; omega
theorem bcells_skip {n i : Nat} (h : n.testBit i = false) : bcells (n % 2 ^ i) = bcells (n % 2 ^ (i + 1)) :=
  bcells_ext fun j _ => by
    rw [Nat.testBit_mod_two_pow, Nat.testBit_mod_two_pow]
    by_cases e : j = i
    · subst e; simp [h]
    · congr 1
      simp; omega
theorem bcells_zero : bcells 0 = (List.replicate 256 (Value.bool false)).toArray := by
  have h : (List.range 256).map (fun i => Value.bool (Nat.testBit 0 i)) = List.replicate 256 (Value.bool false) := by
    rw [List.map_congr_left (g := fun _ => Value.bool false) (fun i _ => by rw [Nat.zero_testBit]), List.map_const', List.length_range]
  unfold bcells
  rw [h]

/-! ## Sums -/
def bcarry (a b i : Nat) : Bool := decide (2 ^ i ≤ a % 2 ^ i + b % 2 ^ i)
theorem mod_succ_bit (a i : Nat) : a % 2 ^ (i + 1) = 2 ^ i * (a.testBit i).toNat + a % 2 ^ i := by
  have h : (a / 2 ^ i) % 2 = (a.testBit i).toNat := by
    rw [Nat.testBit_eq_decide_div_mod_eq]
    rcases Nat.mod_two_eq_zero_or_one (a / 2 ^ i) with h | h <;> simp [h]
  rw [Nat.mod_pow_succ, h]; omega
theorem bcarry_zero (a b : Nat) : bcarry a b 0 = false := by simp [bcarry, Nat.mod_one]
theorem bcarry_succ (a b i : Nat) : bcarry a b (i + 1) = (a.testBit i && b.testBit i || bcarry a b i && (a.testBit i || b.testBit i)) := by
  unfold bcarry
  rw [mod_succ_bit a i, mod_succ_bit b i]
  have ha := Nat.mod_lt a (Nat.two_pow_pos i)
  have hb := Nat.mod_lt b (Nat.two_pow_pos i)
  have hp : 2 ^ (i + 1) = 2 ^ i + 2 ^ i := by rw [Nat.pow_succ]; omega
  rw [hp]
  generalize 2 ^ i = P at *
  generalize a % P = x at *
  generalize b % P = y at *
  cases a.testBit i <;> cases b.testBit i <;> simp <;> omega
theorem sum_bit (a b i : Nat) : (a + b).testBit i = ((a.testBit i != b.testBit i) != bcarry a b i) := by
  have h : (a + b) % 2 ^ (i + 1) = (a % 2 ^ (i + 1) + b % 2 ^ (i + 1)) % 2 ^ (i + 1) := Nat.add_mod _ _ _
  rw [mod_succ_bit (a + b) i, mod_succ_bit a i, mod_succ_bit b i] at h
  have h2 : (a + b) % 2 ^ i = (a % 2 ^ i + b % 2 ^ i) % 2 ^ i := Nat.add_mod _ _ _
  rw [h2] at h
  have ha := Nat.mod_lt a (Nat.two_pow_pos i)
  have hb := Nat.mod_lt b (Nat.two_pow_pos i)
  have hp : 2 ^ (i + 1) = 2 ^ i + 2 ^ i := by rw [Nat.pow_succ]; omega
  rw [hp] at h
  have hP := Nat.two_pow_pos i
  unfold bcarry
  generalize 2 ^ i = P at *
  generalize a % P = x at *
  generalize b % P = y at *
  generalize (a + b).testBit i = u at *
  generalize a.testBit i = v at *
  generalize b.testBit i = z at *
  have hs : (x + y) % P = if P ≤ x + y then x + y - P else x + y := by
    split
    · rw [Nat.mod_eq_sub_mod (by omega), Nat.mod_eq_of_lt (by omega)]
    · exact Nat.mod_eq_of_lt (by omega)
  rw [hs] at h
  have hm : ∀ z : Nat, z < (P + P) + (P + P) → z % (P + P) = if P + P ≤ z then z - (P + P) else z := fun z hz => by
    split
    · rw [Nat.mod_eq_sub_mod (by omega), Nat.mod_eq_of_lt (by omega)]
    · exact Nat.mod_eq_of_lt (by omega)
  by_cases hc : P ≤ x + y
  · rw [if_pos hc] at h
    cases u <;> cases v <;> cases z <;> simp [hc] at h ⊢ <;> rw [hm _ (by omega)] at h <;> split at h <;> omega
  · rw [if_neg hc] at h
    cases u <;> cases v <;> cases z <;> simp [hc] at h ⊢ <;> rw [hm _ (by omega)] at h <;> split at h <;> omega

/-! ## Less -/
theorem div_succ_bit (a i : Nat) : a / 2 ^ i = 2 * (a / 2 ^ (i + 1)) + (a.testBit i).toNat := by
  have h : (a / 2 ^ i) % 2 = (a.testBit i).toNat := by
    rw [Nat.testBit_eq_decide_div_mod_eq]
    rcases Nat.mod_two_eq_zero_or_one (a / 2 ^ i) with h | h <;> simp [h]
  have h2 : a / 2 ^ (i + 1) = a / 2 ^ i / 2 := by rw [Nat.pow_succ, Nat.div_div_eq_div_mul]
  omega
theorem less_at {a b i : Nat} (h : a / 2 ^ (i + 1) = b / 2 ^ (i + 1)) (hne : a.testBit i ≠ b.testBit i) : decide (a < b) = b.testBit i := by
  have ea := div_succ_bit a i
  have eb := div_succ_bit b i
  rw [← h] at eb
  have hlt : ∀ {x y : Nat}, x / 2 ^ i < y / 2 ^ i → x < y := fun {x y} hh => by
    rcases Nat.lt_or_ge x y with h1 | h1
    · exact h1
    · have := Nat.div_le_div_right (c := 2 ^ i) h1; omega
  cases ha : a.testBit i <;> cases hb : b.testBit i <;> rw [ha] at ea hne <;> rw [hb] at eb hne
  · exact absurd rfl hne
  · exact decide_eq_true (hlt (by simp at ea eb; omega))
  · have := hlt (x := b) (y := a) (by simp at ea eb; omega)
    exact decide_eq_false (by omega)
  · exact absurd rfl hne
theorem less_next {a b i : Nat} (h : a / 2 ^ (i + 1) = b / 2 ^ (i + 1)) (he : a.testBit i = b.testBit i) : a / 2 ^ i = b / 2 ^ i := by
  rw [div_succ_bit a i, div_succ_bit b i, h, he]

/-! ## Rests -/
/-- What the document does with a rest at a bit. -/
def restStep (m r : Nat) (v : Bool) : Nat := let s := if m - r ≤ r then r - (m - r) else r + r; let t := s + v.toNat; if t = m then 0 else t
theorem rest_next {a i m : Nat} (hm : 0 < m) : (a / 2 ^ i) % m = restStep m ((a / 2 ^ (i + 1)) % m) (a.testBit i) := by
  rw [div_succ_bit a i]
  have hr := Nat.mod_lt (a / 2 ^ (i + 1)) hm
  have hd := Nat.div_add_mod (a / 2 ^ (i + 1)) m
  generalize a / 2 ^ (i + 1) = A at *
  have hc : (2 * A + (a.testBit i).toNat) % m = (2 * (A % m) + (a.testBit i).toNat) % m := by
    rw [Nat.add_mod, Nat.mul_mod, ← Nat.add_mod (2 % m * (A % m)), Nat.add_mod (2 * (A % m)), Nat.mul_mod 2 (A % m), Nat.mod_mod, ← Nat.add_mod]
  rw [hc]
  generalize A % m = r at *
  unfold restStep
  have hb : (a.testBit i).toNat ≤ 1 := by cases a.testBit i <;> simp
  generalize (a.testBit i).toNat = v at *
  have hsub : ∀ z, m ≤ z → z < m + m → z % m = z - m := fun z h1 h2 => by rw [Nat.mod_eq_sub_mod h1, Nat.mod_eq_of_lt (by omega)]
  simp only
  by_cases h1 : m - r ≤ r
  · rw [if_pos h1]
    by_cases h2 : r - (m - r) + v = m
    · rw [if_pos h2]; omega
    · rw [if_neg h2, hsub _ (by omega) (by omega)]; omega
  · rw [if_neg h1]
    by_cases h2 : r + r + v = m
    · rw [if_pos h2, show 2 * r + v = m by omega, Nat.mod_self]
    · rw [if_neg h2, Nat.mod_eq_of_lt (by omega)]; omega

/-! ## Words -/
theorem word_next (B j k : Nat) : (B / 2 ^ j) % 2 ^ (k + 1) = 2 * ((B / 2 ^ (j + 1)) % 2 ^ k) + (B.testBit j).toNat := by
  rw [div_succ_bit B j]
  have hb : (B.testBit j).toNat ≤ 1 := by cases B.testBit j <;> simp
  generalize B / 2 ^ (j + 1) = A at *
  generalize (B.testBit j).toNat = v at *
  have hp : 2 ^ (k + 1) = 2 * 2 ^ k := by rw [Nat.pow_succ]; omega
  rw [hp]
  have h1 := Nat.mod_lt A (Nat.two_pow_pos k)
  have h2 := Nat.div_add_mod A (2 ^ k)
  generalize 2 ^ k = P at *
  have h3 : 2 * A + v = (2 * (A % P) + v) + (2 * P) * (A / P) := by
    have : 2 * P * (A / P) = 2 * (P * (A / P)) := by rw [Nat.mul_assoc]
    omega
  rw [h3, Nat.add_mul_mod_self_left, Nat.mod_eq_of_lt (by omega)]

/-! ## Products -/
theorem prod_next (a k i : Nat) : a * (k % 2 ^ (i + 1)) % 2 ^ 256 = (a * (k % 2 ^ i) % 2 ^ 256 + (if k.testBit i then a * 2 ^ i else 0)) % 2 ^ 256 := by
  rw [mod_succ_bit k i, Nat.mul_add, Nat.add_comm, ← Nat.mul_assoc]
  cases k.testBit i
  · simp
  · simp [Nat.mod_add_mod]
theorem bit_shift (a n i : Nat) : (a * 2 ^ n).testBit i = (decide (n ≤ i) && a.testBit (i - n)) := by
  rw [Nat.mul_comm, Nat.testBit_two_pow_mul]

/-! ## Three words -/
def wordsN (a b c : Nat) : Nat := a + 2 ^ 64 * b + 2 ^ 128 * c
theorem words_div (n i : Nat) : (n / 2 ^ (64 * i)) % 2 ^ 64 < 2 ^ 64 := Nat.mod_lt _ (Nat.two_pow_pos 64)
theorem words_bit {a b c : Nat} (ha : a < 2 ^ 64) (hb : b < 2 ^ 64) (hc : c < 2 ^ 64) (i : Nat) :
    (wordsN a b c).testBit i = (if i < 64 then a.testBit i else if i < 128 then b.testBit (i - 64) else c.testBit (i - 128)) := by
  unfold wordsN
  have e : a + 2 ^ 64 * b + 2 ^ 128 * c = 2 ^ 64 * (2 ^ 64 * c + b) + a := by
    have : (2 : Nat) ^ 128 = 2 ^ 64 * 2 ^ 64 := by rw [← Nat.pow_add]
    rw [this, Nat.mul_add, Nat.mul_assoc]; omega
  rw [e, Nat.testBit_two_pow_mul_add _ ha]
  by_cases h1 : i < 64
  · simp [h1]
  · rw [if_neg h1, if_neg h1, Nat.testBit_two_pow_mul_add _ hb]
    by_cases h2 : i < 128
    · rw [if_pos (by omega), if_pos h2]
    · rw [if_neg (by omega), if_neg h2]; congr 1
theorem words_lt {a b c : Nat} (ha : a < 2 ^ 64) (hb : b < 2 ^ 64) (hc : c < 2 ^ 64) : wordsN a b c < 2 ^ 192 := by
  unfold wordsN
  simp only [Nat.reducePow] at *
  omega
theorem words_of (n : Nat) (h : n < 2 ^ 192) : wordsN (n % 2 ^ 64) (n / 2 ^ 64 % 2 ^ 64) (n / 2 ^ 128 % 2 ^ 64) = n := by
  unfold wordsN
  simp only [Nat.reducePow] at *
  omega
theorem words_get {a b c : Nat} (ha : a < 2 ^ 64) (hb : b < 2 ^ 64) (hc : c < 2 ^ 64) :
    wordsN a b c % 2 ^ 64 = a ∧ wordsN a b c / 2 ^ 64 % 2 ^ 64 = b ∧ wordsN a b c / 2 ^ 128 % 2 ^ 64 = c := by
  unfold wordsN
  simp only [Nat.reducePow] at *
  omega
end Go.Proofs.YtmalmijdjhkklaaGreat
