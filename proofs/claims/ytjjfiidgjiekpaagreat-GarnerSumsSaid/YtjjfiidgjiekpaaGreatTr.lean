/- Transforms over residues: by the sum, by halves, by quarters; there and back. -/
import Derived.Test.YtjjfiidgjiekpaaGreatWAlgNumGarM
set_option linter.unusedVariables false
set_option linter.unusedSimpArgs false
set_option linter.unusedSectionVars false
namespace Go.Proofs.YtjjfiidgjiekpaaGreat.Alg
section
variable {p : Nat} [NeZero p]

/-- The transform's i-th sum. -/
def dft (w : Fin p) (n : Nat) (a : Nat → Fin p) (i : Nat) : Fin p := sm n fun j => pw w (i * j) * a j
theorem dft_congr {w : Fin p} {n : Nat} {a b : Nat → Fin p} (h : ∀ j, j < n → a j = b j) (i : Nat) : dft w n a i = dft w n b i :=
  sm_congr fun j hj => by rw [h j hj]
theorem dft_one (w : Fin p) (a : Nat → Fin p) (i : Nat) : dft w 1 a i = a 0 := by
  unfold dft
  rw [sm_succ, sm_zero, Nat.mul_zero, pw_zero]; grind
theorem dft_period {w : Fin p} {n : Nat} (h : pw w n = 1) (a : Nat → Fin p) (i k : Nat) : dft w n a (i + n * k) = dft w n a i :=
  sm_congr fun j _ => by
    rw [Nat.add_mul, pw_add, Nat.mul_assoc, pw_mul w n, h, one_pw]; grind
theorem sm_double (n : Nat) (f : Nat → Fin p) : sm (2 * n) f = sm n (fun i => f (2 * i)) + sm n (fun i => f (2 * i + 1)) := by
  induction n with
  | zero => rw [Nat.mul_zero, sm_zero, sm_zero, sm_zero]; grind
  | succ n ih => rw [show 2 * (n + 1) = 2 * n + 1 + 1 by omega, sm_succ, sm_succ, sm_succ, sm_succ, ih]; grind
theorem sm_quad (n : Nat) (f : Nat → Fin p) : sm (4 * n) f = sm n (fun i => f (4 * i)) + sm n (fun i => f (4 * i + 1)) + sm n (fun i => f (4 * i + 2)) + sm n (fun i => f (4 * i + 3)) := by
  induction n with
  | zero => rw [Nat.mul_zero, sm_zero, sm_zero, sm_zero, sm_zero, sm_zero]; grind
  | succ n ih => rw [show 4 * (n + 1) = 4 * n + 1 + 1 + 1 + 1 by omega, sm_succ, sm_succ, sm_succ, sm_succ, sm_succ, sm_succ, sm_succ, sm_succ, ih]; grind
theorem pw_two (w : Fin p) (k : Nat) : pw w (2 * k) = pw (w * w) k := by rw [pw_mul]; congr 1; rw [pw_succ, pw_one]
theorem pw_four (w : Fin p) (k : Nat) : pw w (4 * k) = pw (pw w 4) k := pw_mul w 4 k
/-- By halves, from the numbers at even places, and at odd ones. -/
theorem dft_even_odd (w : Fin p) (m : Nat) (a : Nat → Fin p) (i : Nat) : dft w (2 * m) a i = dft (w * w) m (fun j => a (2 * j)) i + pw w i * dft (w * w) m (fun j => a (2 * j + 1)) i := by
  unfold dft
  rw [sm_double, ← sm_mul]
  congr 1
  · exact sm_congr fun j _ => by rw [show i * (2 * j) = 2 * (i * j) by rw [Nat.mul_left_comm], pw_two]
  · exact sm_congr fun j _ => by
      rw [show i * (2 * j + 1) = i + 2 * (i * j) by rw [Nat.mul_add, Nat.mul_left_comm, Nat.mul_one]; omega, pw_add, pw_two]; grind
theorem dft_up_low (w : Fin p) (m : Nat) (a : Nat → Fin p) (i : Nat) : dft w (2 * m) a i = dft (w * w) m (fun j => a (2 * j)) i + pw w i * dft (w * w) m (fun j => a (2 * j + 1)) i := dft_even_odd w m a i
theorem dft_up_high {w : Fin p} {m : Nat} (hm : pw w m = -1) (a : Nat → Fin p) (i : Nat) : dft w (2 * m) a (i + m) = dft (w * w) m (fun j => a (2 * j)) i - pw w i * dft (w * w) m (fun j => a (2 * j + 1)) i := by
  have h1 : pw (w * w) m = 1 := by rw [mul_pw, hm]; grind
  have e := fun b => dft_period h1 b i 1
  simp only [Nat.mul_one] at e
  rw [dft_even_odd, e, e, pw_add, hm]; grind
/-- By halves, from both halves of the list. -/
theorem dft_down_even {w : Fin p} {m : Nat} (hm : pw w m = -1) (a : Nat → Fin p) (i : Nat) : dft w (2 * m) a (2 * i) = dft (w * w) m (fun j => a j + a (j + m)) i := by
  unfold dft
  rw [Nat.two_mul m, sm_split, ← sm_add]
  refine sm_congr fun j _ => ?_
  have h1 : pw w (2 * i * (m + j)) = pw w (2 * i * j) := by
    rw [Nat.mul_add, pw_add, show 2 * i * m = m * (2 * i) by rw [Nat.mul_comm], pw_mul w m, hm, pw_two, show (-1 : Fin p) * -1 = 1 by grind, one_pw]; grind
  rw [h1, show 2 * i * j = 2 * (i * j) by rw [Nat.mul_assoc], pw_two, Nat.add_comm m j]; grind
theorem dft_down_odd {w : Fin p} {m : Nat} (hm : pw w m = -1) (a : Nat → Fin p) (i : Nat) : dft w (2 * m) a (2 * i + 1) = dft (w * w) m (fun j => pw w j * (a j - a (j + m))) i := by
  unfold dft
  rw [Nat.two_mul m, sm_split, ← sm_add]
  refine sm_congr fun j _ => ?_
  have h1 : pw w ((2 * i + 1) * (m + j)) = - pw w ((2 * i + 1) * j) := by
    rw [Nat.mul_add, pw_add, show (2 * i + 1) * m = m * (2 * i) + m by rw [Nat.add_mul, Nat.one_mul, Nat.mul_comm (2 * i) m], pw_add, pw_mul w m, hm, pw_two, show (-1 : Fin p) * -1 = 1 by grind, one_pw]; grind
  rw [h1, show (2 * i + 1) * j = 2 * (i * j) + j by rw [Nat.add_mul, Nat.one_mul, Nat.mul_assoc], pw_add, pw_two, Nat.add_comm m j]; grind
/-- By quarters. -/
theorem dft_quarters (w : Fin p) (m : Nat) (a : Nat → Fin p) (i : Nat) : dft w (4 * m) a i =
    dft (pw w 4) m (fun j => a (4 * j)) i + pw w i * dft (pw w 4) m (fun j => a (4 * j + 1)) i + pw w (2 * i) * dft (pw w 4) m (fun j => a (4 * j + 2)) i + pw w (3 * i) * dft (pw w 4) m (fun j => a (4 * j + 3)) i := by
  unfold dft
  rw [sm_quad, ← sm_mul, ← sm_mul, ← sm_mul]
  have e0 : ∀ j, i * (4 * j) = 4 * (i * j) := fun j => by rw [Nat.mul_left_comm]
  have e1 : ∀ j r, i * (4 * j + r) = r * i + 4 * (i * j) := fun j r => by rw [Nat.mul_add, Nat.mul_left_comm, Nat.mul_comm i r]; omega
  congr 1
  · congr 1
    · congr 1
      · exact sm_congr fun j _ => by rw [e0, pw_four]
      · exact sm_congr fun j _ => by rw [e1, pw_add, pw_four, Nat.one_mul]; grind
    · exact sm_congr fun j _ => by rw [e1, pw_add, pw_four]; grind
  · exact sm_congr fun j _ => by rw [e1, pw_add, pw_four]; grind

/-- The sum of a root's powers. -/
theorem geo (x : Fin p) (n : Nat) : (1 - x) * sm n (fun j => pw x j) = 1 - pw x n := by
  induction n with
  | zero => rw [sm_zero, pw_zero]; grind
  | succ n ih => rw [sm_succ, pw_succ]; grind
theorem sm_one_all (n : Nat) : sm n (fun _ => (1 : Fin p)) = zt p (n : Int) := by
  induction n with
  | zero => rw [sm_zero]; exact zt_zero.symm
  | succ n ih => rw [sm_succ, ih, Int.natCast_succ, zt_add, zt_one]
theorem orth {w : Fin p} {n : Nat} (hp : Prime p) (hw : Ord w n) (k : Nat) : sm n (fun j => pw w (k * j)) = if n ∣ k then zt p (n : Int) else 0 := by
  split
  · rename_i h
    obtain ⟨c, rfl⟩ := h
    rw [← sm_one_all]
    exact sm_congr fun j _ => by rw [Nat.mul_assoc, pw_mul, hw.2.1, one_pw]
  · rename_i h
    have h1 : pw w k ≠ 1 := fun h1 => h (hw.dvd.1 h1)
    have h2 := geo (pw w k) n
    rw [← pw_mul, Nat.mul_comm k n, pw_mul, hw.2.1, one_pw] at h2
    rw [show sm n (fun j => pw w (k * j)) = sm n (fun j => pw (pw w k) j) from sm_congr fun j _ => pw_mul w k j]
    rcases mul_zero_of hp (show (1 - pw w k) * sm n (fun j => pw (pw w k) j) = 0 by rw [h2]; grind) with h3 | h3
    · exact absurd (show pw w k = 1 by grind) h1
    · exact h3
/-- There and back. -/
theorem dft_back {w v : Fin p} {n : Nat} (hp : Prime p) (hw : Ord w n) (hv : w * v = 1) (a : Nat → Fin p) (i : Nat) (hi : i < n) : dft v n (dft w n a) i = zt p (n : Int) * a i := by
  have hvn : ∀ k, pw w k * pw v k = 1 := fun k => by rw [← mul_pw, hv, one_pw]
  have e1 : dft v n (dft w n a) i = sm n (fun j => sm n (fun k => pw v (i * k) * pw w (k * j)) * a j) := by
    unfold dft
    have : sm n (fun j => pw v (i * j) * sm n (fun j_1 => pw w (j * j_1) * a j_1)) = sm n (fun k => sm n (fun j => pw v (i * k) * pw w (k * j) * a j)) := sm_congr fun k _ => by
      rw [← sm_mul]
      exact sm_congr fun j _ => by grind
    rw [this, sm_swap]
    refine sm_congr fun j _ => ?_
    rw [show sm n (fun i_1 => pw v (i * i_1) * pw w (i_1 * j) * a j) = sm n (fun k => a j * (pw v (i * k) * pw w (k * j))) from sm_congr fun k _ => by grind, sm_mul]; grind
  rw [e1, sm_one i hi]
  · congr 1
    rw [← sm_one_all]
    exact sm_congr fun k _ => by rw [Nat.mul_comm k i]; have := hvn (i * k); grind
  · intro j hj hne
    have e2 : sm n (fun k => pw v (i * k) * pw w (k * j)) = 0 := by
      rcases Nat.lt_or_gt_of_ne hne with h | h
      · -- j < i : v^(i-j)
        have hv' : pw v n = 1 := by have := hvn n; rw [hw.2.1] at this; grind
        have hvo : Ord v n := by
          refine ⟨hw.1, hv', fun m h0 h1 h2 => hw.2.2 m h0 h1 ?_⟩
          have := hvn m
          rw [h2] at this; grind
        have := orth hp hvo (i - j)
        rw [if_neg (fun hd => by have := Nat.le_of_dvd (by omega) hd; omega)] at this
        rw [← this]
        refine sm_congr fun k _ => ?_
        rw [show i * k = (i - j) * k + k * j by rw [Nat.sub_mul, Nat.mul_comm k j]; have : j * k ≤ i * k := Nat.mul_le_mul_right _ (by omega); omega, pw_add]
        have := hvn (k * j); grind
      · have := orth hp hw (j - i)
        rw [if_neg (fun hd => by have := Nat.le_of_dvd (by omega) hd; omega)] at this
        rw [← this]
        refine sm_congr fun k _ => ?_
        rw [show k * j = (j - i) * k + i * k by rw [Nat.sub_mul, Nat.mul_comm k j]; have : i * k ≤ j * k := Nat.mul_le_mul_right _ (by omega); omega, pw_add]
        have := hvn (i * k); grind
    rw [e2]; grind
end
end Go.Proofs.YtjjfiidgjiekpaaGreat.Alg
