/- Residues: Fin p as numbers modulo p; whole numbers taken to it; powers; sums. -/
set_option linter.unusedVariables false
set_option linter.unusedSimpArgs false
set_option linter.unusedSectionVars false
namespace Go.Proofs.YtgdadkkiefkimaaGreat.Alg

section
variable {p : Nat} [NeZero p]

theorem p_pos : (0 : Int) < (p : Int) := by have := Nat.pos_of_ne_zero (NeZero.ne p); omega

/-- The residue of a whole number. -/
def zt (p : Nat) [NeZero p] (a : Int) : Fin p := ⟨(a % (p : Int)).toNat, by
  have h0 : (0 : Int) < p := p_pos
  have h1 := Int.emod_nonneg a (show (p : Int) ≠ 0 by omega)
  have h2 := Int.emod_lt_of_pos a h0
  omega⟩

theorem zt_val (a : Int) : ((zt p a).val : Int) = a % (p : Int) := by
  have h1 := Int.emod_nonneg a (show (p : Int) ≠ 0 by have := @p_pos p _; omega)
  show (((a % (p : Int)).toNat : Nat) : Int) = _
  omega

theorem zt_eq {a b : Int} : zt p a = zt p b ↔ a % (p : Int) = b % (p : Int) := by
  constructor
  · intro h
    rw [← zt_val, ← zt_val, h]
  · intro h
    apply Fin.ext
    have := zt_val (p := p) a
    have := zt_val (p := p) b
    omega

theorem zt_of_val (x : Fin p) : zt p (x.val : Int) = x := by
  apply Fin.ext
  have h := zt_val (p := p) (x.val : Int)
  rw [Int.emod_eq_of_lt (by omega) (by have := x.isLt; omega)] at h
  omega

theorem zt_emod (a : Int) : zt p (a % (p : Int)) = zt p a := zt_eq.2 (Int.emod_emod_of_dvd a ⟨1, by simp⟩)

theorem zt_add (a b : Int) : zt p (a + b) = zt p a + zt p b := by
  apply Fin.ext
  have h := zt_val (p := p) (a + b)
  have ha := zt_val (p := p) a
  have hb := zt_val (p := p) b
  have e : (((zt p a + zt p b).val : Nat) : Int) = ((zt p a).val + (zt p b).val) % (p : Int) := by
    rw [Fin.val_add]; simp
  have : (((zt p (a+b)).val : Nat) : Int) = ((zt p a + zt p b).val : Nat) := by
    rw [e, h, ha, hb, ← Int.add_emod]
  omega

theorem zt_mul (a b : Int) : zt p (a * b) = zt p a * zt p b := by
  apply Fin.ext
  have h := zt_val (p := p) (a * b)
  have ha := zt_val (p := p) a
  have hb := zt_val (p := p) b
  have e : (((zt p a * zt p b).val : Nat) : Int) = ((zt p a).val * (zt p b).val) % (p : Int) := by
    rw [Fin.val_mul]; simp
  have : (((zt p (a*b)).val : Nat) : Int) = ((zt p a * zt p b).val : Nat) := by
    rw [e, h, ha, hb, ← Int.mul_emod]
  omega

theorem zt_zero : zt p 0 = 0 := by
  apply Fin.ext
  have h := zt_val (p := p) 0
  simp at h
  simp [h]

theorem zt_one : zt p 1 = 1 := by
  apply Fin.ext
  have h := zt_val (p := p) 1
  have : ((1 : Fin p).val : Int) = 1 % (p : Int) := by
    show (((1 % p : Nat)) : Int) = _
    simp
  omega

theorem zt_neg (a : Int) : zt p (-a) = - zt p a := by
  have h : zt p (-a) + zt p a = 0 := by rw [← zt_add, ← zt_zero]; congr 1; omega
  grind

theorem zt_sub (a b : Int) : zt p (a - b) = zt p a - zt p b := by
  rw [Int.sub_eq_add_neg, zt_add, zt_neg]; grind

/-! ### Powers -/
def pw (a : Fin p) : Nat → Fin p
  | 0 => 1
  | n + 1 => pw a n * a

theorem pw_zero (a : Fin p) : pw a 0 = 1 := rfl
theorem pw_succ (a : Fin p) (n : Nat) : pw a (n + 1) = pw a n * a := rfl
theorem pw_one (a : Fin p) : pw a 1 = a := by rw [pw_succ, pw_zero]; grind
theorem one_pw (n : Nat) : pw (1 : Fin p) n = 1 := by
  induction n with
  | zero => rfl
  | succ n ih => rw [pw_succ, ih]; grind
theorem pw_add (a : Fin p) (m n : Nat) : pw a (m + n) = pw a m * pw a n := by
  induction n with
  | zero => rw [Nat.add_zero, pw_zero]; grind
  | succ n ih => rw [← Nat.add_assoc, pw_succ, pw_succ, ih]; grind
theorem pw_mul (a : Fin p) (m n : Nat) : pw a (m * n) = pw (pw a m) n := by
  induction n with
  | zero => rfl
  | succ n ih => rw [Nat.mul_succ, pw_add, ih, pw_succ]
theorem mul_pw (a b : Fin p) (n : Nat) : pw (a * b) n = pw a n * pw b n := by
  induction n with
  | zero => rw [pw_zero, pw_zero, pw_zero]; grind
  | succ n ih => rw [pw_succ, pw_succ, pw_succ, ih]; grind
theorem zt_pow (a : Int) (n : Nat) : zt p (a ^ n) = pw (zt p a) n := by
  induction n with
  | zero => rw [Int.pow_zero, zt_one, pw_zero]
  | succ n ih => rw [Int.pow_succ, zt_mul, ih, pw_succ]

/-! ### Sums -/
def sm (n : Nat) (f : Nat → Fin p) : Fin p :=
  match n with
  | 0 => 0
  | n + 1 => sm n f + f n

theorem sm_zero (f : Nat → Fin p) : sm 0 f = 0 := rfl
theorem sm_succ (n : Nat) (f : Nat → Fin p) : sm (n + 1) f = sm n f + f n := rfl
theorem sm_congr {n : Nat} {f g : Nat → Fin p} (h : ∀ i, i < n → f i = g i) : sm n f = sm n g := by
  induction n with
  | zero => rfl
  | succ n ih => rw [sm_succ, sm_succ, ih (fun i hi => h i (by omega)), h n (by omega)]
theorem sm_add (n : Nat) (f g : Nat → Fin p) : sm n (fun i => f i + g i) = sm n f + sm n g := by
  induction n with
  | zero => rw [sm_zero, sm_zero, sm_zero]; grind
  | succ n ih => rw [sm_succ, sm_succ, sm_succ, ih]; grind
theorem sm_mul (n : Nat) (c : Fin p) (f : Nat → Fin p) : sm n (fun i => c * f i) = c * sm n f := by
  induction n with
  | zero => rw [sm_zero, sm_zero]; grind
  | succ n ih => rw [sm_succ, sm_succ, ih]; grind
theorem sm_const0 (n : Nat) : sm n (fun _ => (0 : Fin p)) = 0 := by
  induction n with
  | zero => rfl
  | succ n ih => rw [sm_succ, ih]; grind
theorem sm_swap (n m : Nat) (f : Nat → Nat → Fin p) : sm n (fun i => sm m (fun j => f i j)) = sm m (fun j => sm n (fun i => f i j)) := by
  induction n with
  | zero => simp only [sm_zero]; rw [sm_const0]
  | succ n ih => rw [sm_succ, ih, ← sm_add]; rfl
theorem sm_split (n m : Nat) (f : Nat → Fin p) : sm (n + m) f = sm n f + sm m (fun i => f (n + i)) := by
  induction m with
  | zero => rw [Nat.add_zero, sm_zero]; grind
  | succ m ih => rw [← Nat.add_assoc, sm_succ, ih, sm_succ]; grind
/-- One summand alone. -/
theorem sm_one {n : Nat} {f : Nat → Fin p} (k : Nat) (hk : k < n) (h : ∀ i, i < n → i ≠ k → f i = 0) : sm n f = f k := by
  induction n with
  | zero => omega
  | succ n ih =>
    rw [sm_succ]
    by_cases e : k = n
    · subst e
      rw [sm_congr (g := fun _ => 0) (fun i hi => h i (by omega) (by omega)), sm_const0]; grind
    · rw [ih (by omega) (fun i hi => h i (by omega)), h n (by omega) (by omega)]; grind
end
end Go.Proofs.YtgdadkkiefkimaaGreat.Alg
