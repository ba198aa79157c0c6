/- Residues: Fin p as numbers modulo p; whole numbers taken to it; powers; sums. -/
set_option linter.unusedVariables false
set_option linter.unusedSimpArgs false
set_option linter.unusedSectionVars false
section
/- Residues: Fin p as numbers modulo p; whole numbers taken to it; powers; sums. -/
namespace Go.Proofs.YtmalmijdjhkklaaGreat.Alg

section
variable {p : Nat} [NeZero p]

theorem p_pos : (0 : Int) < (p : Int) := by have := Nat.pos_of_ne_zero (NeZero.ne p); omega

/-- The residue of a whole number. -/
def zt (p : Nat) [NeZero p] (a : Int) : Fin p := ⟨(a % (p : Int)).toNat, by
  have h0 : (0 : Int) < p := p_pos
  have h1 := Int.emod_nonneg a (show (p : Int) ≠ 0 by omega)
  have h2 := Int.emod_lt_of_pos a h0
  omega⟩

theorem zt_val (a : Int) : ((zt p a).val : Int) = a % (p : Int) := by
  have h1 := Int.emod_nonneg a (show (p : Int) ≠ 0 by have := @p_pos p _; omega)
  show (((a % (p : Int)).toNat : Nat) : Int) = _
  omega

theorem zt_eq {a b : Int} : zt p a = zt p b ↔ a % (p : Int) = b % (p : Int) := by
  constructor
  · intro h
    rw [← zt_val, ← zt_val, h]
  · intro h
    apply Fin.ext
    have := zt_val (p := p) a
    have := zt_val (p := p) b
    omega

theorem zt_of_val (x : Fin p) : zt p (x.val : Int) = x := by
  apply Fin.ext
  have h := zt_val (p := p) (x.val : Int)
  rw [Int.emod_eq_of_lt (by omega) (by have := x.isLt; omega)] at h
  omega

theorem zt_emod (a : Int) : zt p (a % (p : Int)) = zt p a := zt_eq.2 (Int.emod_emod_of_dvd a ⟨1, by simp⟩)

theorem zt_add (a b : Int) : zt p (a + b) = zt p a + zt p b := by
  apply Fin.ext
  have h := zt_val (p := p) (a + b)
  have ha := zt_val (p := p) a
  have hb := zt_val (p := p) b
  have e : (((zt p a + zt p b).val : Nat) : Int) = ((zt p a).val + (zt p b).val) % (p : Int) := by
    rw [Fin.val_add]; simp
  have : (((zt p (a+b)).val : Nat) : Int) = ((zt p a + zt p b).val : Nat) := by
    rw [e, h, ha, hb, ← Int.add_emod]
  omega

theorem zt_mul (a b : Int) : zt p (a * b) = zt p a * zt p b := by
  apply Fin.ext
  have h := zt_val (p := p) (a * b)
  have ha := zt_val (p := p) a
  have hb := zt_val (p := p) b
  have e : (((zt p a * zt p b).val : Nat) : Int) = ((zt p a).val * (zt p b).val) % (p : Int) := by
    rw [Fin.val_mul]; simp
  have : (((zt p (a*b)).val : Nat) : Int) = ((zt p a * zt p b).val : Nat) := by
    rw [e, h, ha, hb, ← Int.mul_emod]
  omega

theorem zt_zero : zt p 0 = 0 := by
  apply Fin.ext
  have h := zt_val (p := p) 0
  simp at h
  simp [h]

theorem zt_one : zt p 1 = 1 := by
  apply Fin.ext
  have h := zt_val (p := p) 1
  have : ((1 : Fin p).val : Int) = 1 % (p : Int) := by
    show (((1 % p : Nat)) : Int) = _
    simp
  omega

theorem zt_neg (a : Int) : zt p (-a) = - zt p a := by
  have h : zt p (-a) + zt p a = 0 := by rw [← zt_add, ← zt_zero]; congr 1; omega
  grind

theorem zt_sub (a b : Int) : zt p (a - b) = zt p a - zt p b := by
  rw [Int.sub_eq_add_neg, zt_add, zt_neg]; grind

/-! ### Powers -/
def pw (a : Fin p) : Nat → Fin p
  | 0 => 1
  | n + 1 => pw a n * a

theorem pw_zero (a : Fin p) : pw a 0 = 1 := rfl
theorem pw_succ (a : Fin p) (n : Nat) : pw a (n + 1) = pw a n * a := rfl
theorem pw_one (a : Fin p) : pw a 1 = a := by rw [pw_succ, pw_zero]; grind
theorem one_pw (n : Nat) : pw (1 : Fin p) n = 1 := by
  induction n with
  | zero => rfl
  | succ n ih => rw [pw_succ, ih]; grind
theorem pw_add (a : Fin p) (m n : Nat) : pw a (m + n) = pw a m * pw a n := by
  induction n with
  | zero => rw [Nat.add_zero, pw_zero]; grind
  | succ n ih => rw [← Nat.add_assoc, pw_succ, pw_succ, ih]; grind
theorem pw_mul (a : Fin p) (m n : Nat) : pw a (m * n) = pw (pw a m) n := by
  induction n with
  | zero => rfl
  | succ n ih => rw [Nat.mul_succ, pw_add, ih, pw_succ]
theorem mul_pw (a b : Fin p) (n : Nat) : pw (a * b) n = pw a n * pw b n := by
  induction n with
  | zero => rw [pw_zero, pw_zero, pw_zero]; grind
  | succ n ih => rw [pw_succ, pw_succ, pw_succ, ih]; grind
theorem zt_pow (a : Int) (n : Nat) : zt p (a ^ n) = pw (zt p a) n := by
  induction n with
  | zero => rw [Int.pow_zero, zt_one, pw_zero]
  | succ n ih => rw [Int.pow_succ, zt_mul, ih, pw_succ]

/-! ### Sums -/
def sm (n : Nat) (f : Nat → Fin p) : Fin p :=
  match n with
  | 0 => 0
  | n + 1 => sm n f + f n

theorem sm_zero (f : Nat → Fin p) : sm 0 f = 0 := rfl
theorem sm_succ (n : Nat) (f : Nat → Fin p) : sm (n + 1) f = sm n f + f n := rfl
theorem sm_congr {n : Nat} {f g : Nat → Fin p} (h : ∀ i, i < n → f i = g i) : sm n f = sm n g := by
  induction n with
  | zero => rfl
  | succ n ih => rw [sm_succ, sm_succ, ih (fun i hi => h i (by omega)), h n (by omega)]
theorem sm_add (n : Nat) (f g : Nat → Fin p) : sm n (fun i => f i + g i) = sm n f + sm n g := by
  induction n with
  | zero => rw [sm_zero, sm_zero, sm_zero]; grind
  | succ n ih => rw [sm_succ, sm_succ, sm_succ, ih]; grind
theorem sm_mul (n : Nat) (c : Fin p) (f : Nat → Fin p) : sm n (fun i => c * f i) = c * sm n f := by
  induction n with
  | zero => rw [sm_zero, sm_zero]; grind
  | succ n ih => rw [sm_succ, sm_succ, ih]; grind
theorem sm_const0 (n : Nat) : sm n (fun _ => (0 : Fin p)) = 0 := by
  induction n with
  | zero => rfl
  | succ n ih => rw [sm_succ, ih]; grind
theorem sm_swap (n m : Nat) (f : Nat → Nat → Fin p) : sm n (fun i => sm m (fun j => f i j)) = sm m (fun j => sm n (fun i => f i j)) := by
  induction n with
  | zero => simp only [sm_zero]; rw [sm_const0]
  | succ n ih => rw [sm_succ, ih, ← sm_add]; rfl
theorem sm_split (n m : Nat) (f : Nat → Fin p) : sm (n + m) f = sm n f + sm m (fun i => f (n + i)) := by
  induction m with
  | zero => rw [Nat.add_zero, sm_zero]; grind
  | succ m ih => rw [← Nat.add_assoc, sm_succ, ih, sm_succ]; grind
/-- One summand alone. -/
theorem sm_one {n : Nat} {f : Nat → Fin p} (k : Nat) (hk : k < n) (h : ∀ i, i < n → i ≠ k → f i = 0) : sm n f = f k := by
  induction n with
  | zero => omega
  | succ n ih =>
    rw [sm_succ]
    by_cases e : k = n
    · subst e
      rw [sm_congr (g := fun _ => 0) (fun i hi => h i (by omega) (by omega)), sm_const0]; grind
    · rw [ih (by omega) (fun i hi => h i (by omega)), h n (by omega) (by omega)]; grind
end
end Go.Proofs.YtmalmijdjhkklaaGreat.Alg
end

section
/- Primes, orders of residues, Lucas' test, Fermat's theorem, primitive roots. -/
namespace Go.Proofs.YtmalmijdjhkklaaGreat.Alg

/-! ### Folds over an interval; places changed about -/
section
variable {α : Type} (op : α → α → α) (e : α)
def fd (n : Nat) (f : Nat → α) : α :=
  match n with
  | 0 => e
  | n + 1 => op (fd n f) (f n)
theorem fd_congr {n : Nat} {f g : Nat → α} (h : ∀ i, i < n → f i = g i) : fd op e n f = fd op e n g := by
  induction n with
  | zero => rfl
  | succ n ih => rw [fd, fd, ih (fun i hi => h i (by omega)), h n (by omega)]
variable (ha : ∀ a b c, op (op a b) c = op a (op b c)) (hc : ∀ a b, op a b = op b a)
include ha hc
theorem fd_swap1 {n : Nat} {f g : Nat → α} (k : Nat) (hk : k < n) (h : ∀ i, i < n → i ≠ k → f i = g i) : op (fd op e n f) (g k) = op (fd op e n g) (f k) := by
  induction n with
  | zero => omega
  | succ n ih =>
    rw [fd, fd]
    by_cases hkn : k = n
    · subst hkn
      rw [fd_congr op e (g := g) (fun i hi => h i (by omega) (by omega)), ha, hc (f k), ← ha]
    · rw [h n (by omega) (by omega), ha, hc (g n), ← ha, ih (by omega) (fun i hi => h i (by omega)), ha, hc (f k), ← ha]
end

/-- A map of the numbers below n to themselves that hits none twice hits all. -/
theorem onto_of_inj (n : Nat) : ∀ f : Nat → Nat, (∀ i, i < n → f i < n) → (∀ i j, i < n → j < n → f i = f j → i = j) → ∀ y, y < n → ∃ i, i < n ∧ f i = y := by
  induction n with
  | zero => intro f _ _ y hy; omega
  | succ n ih =>
    intro f hf hi y hy
    have hv := hf n (by omega)
    have key := ih (fun i => if f i = n then f n else f i) (by
      intro i hin
      try dsimp only
      have h1 := hf i (by omega)
      split
      · rename_i h
        have : f n ≠ n := fun h2 => by have := hi i n (by omega) (by omega) (by omega); omega
        omega
      · omega) (by
      intro i j hin hjn h
      try dsimp only at h
      split at h <;> split at h
      · exact hi i j (by omega) (by omega) (by omega)
      · have := hi n j (by omega) (by omega) h; omega
      · have := hi i n (by omega) (by omega) h; omega
      · exact hi i j (by omega) (by omega) h)
    by_cases hyv : y = f n
    · exact ⟨n, by omega, hyv.symm⟩
    · by_cases hyn : y = n
      · obtain ⟨i, hin, h⟩ := key (f n) (by omega)
        try dsimp only at h
        split at h
        · exact ⟨i, by omega, by omega⟩
        · have := hi i n (by omega) (by omega) h; omega
      · obtain ⟨i, hin, h⟩ := key y (by omega)
        try dsimp only at h
        split at h
        · omega
        · exact ⟨i, by omega, h⟩

section
variable {α : Type} (op : α → α → α) (e : α)
variable (ha : ∀ a b c, op (op a b) c = op a (op b c)) (hc : ∀ a b, op a b = op b a)
include ha hc
theorem fd_perm (n : Nat) : ∀ (f : Nat → Nat) (F : Nat → α), (∀ i, i < n → f i < n) → (∀ i j, i < n → j < n → f i = f j → i = j) → fd op e n (fun i => F (f i)) = fd op e n F := by
  induction n with
  | zero => intro f F _ _; rfl
  | succ n ih =>
    intro f F hf hi
    by_cases hv : f n = n
    · rw [fd, fd, hv, ih f F (fun i hin => by
        have h1 := hf i (by omega)
        have : f i ≠ n := fun h => by have := hi i n (by omega) (by omega) (by omega); omega
        omega) (fun i j hin hjn => hi i j (by omega) (by omega))]
    · obtain ⟨k, hk, hfk⟩ := onto_of_inj (n + 1) f hf hi n (by omega)
      have hkn : k < n := by
        rcases Nat.lt_or_ge k n with h | h
        · exact h
        · have : k = n := by omega
          subst this; exact absurd hfk hv
      have hv' : f n < n := by have := hf n (by omega); omega
      have key := ih (fun i => if f i = n then f n else f i) F (by
        intro i hin
        try dsimp only
        have h1 := hf i (by omega)
        split <;> omega) (by
        intro i j hin hjn h
        try dsimp only at h
        split at h <;> split at h
        · exact hi i j (by omega) (by omega) (by omega)
        · have := hi n j (by omega) (by omega) h; omega
        · have := hi i n (by omega) (by omega) h; omega
        · exact hi i j (by omega) (by omega) h)
      have sw := fd_swap1 op e ha hc (f := fun i => F (f i)) (g := fun i => F (if f i = n then f n else f i)) k hkn (fun i hin hne => by
        have : f i ≠ n := fun h => hne (hi i k (by omega) (by omega) (by omega))
        simp [this])
      simp only [hfk, if_true] at sw
      rw [fd, fd, sw, key]
end

theorem sm_eq_fd {p : Nat} [NeZero p] (n : Nat) (f : Nat → Fin p) : sm n f = fd (· + ·) 0 n f := by
  induction n with
  | zero => rfl
  | succ n ih => rw [sm_succ, ih]; rfl
/-- A sum over places changed about. -/
theorem sm_perm {p : Nat} [NeZero p] (n : Nat) (f : Nat → Nat) (F : Nat → Fin p) (hf : ∀ i, i < n → f i < n) (hi : ∀ i j, i < n → j < n → f i = f j → i = j) : sm n (fun i => F (f i)) = sm n F := by
  rw [sm_eq_fd, sm_eq_fd]
  exact fd_perm _ _ (fun a b c => by grind) (fun a b => by grind) n f F hf hi

/-! ### Primes -/
def Prime (p : Nat) : Prop := 2 ≤ p ∧ ∀ d, d ∣ p → d = 1 ∨ d = p

theorem prime_factor (n : Nat) (h : 2 ≤ n) : ∃ q, Prime q ∧ q ∣ n := by
  induction n using Nat.strongRecOn with
  | _ n ih =>
    by_cases hp : Prime n
    · exact ⟨n, hp, Nat.dvd_refl n⟩
    · have : ∃ d, d ∣ n ∧ d ≠ 1 ∧ d ≠ n := by
        apply Classical.byContradiction
        intro hno
        exact hp ⟨h, fun d hd => Classical.byContradiction fun hh => hno ⟨d, hd, fun e => hh (.inl e), fun e => hh (.inr e)⟩⟩
      obtain ⟨d, hd, h1, h2⟩ := this
      have hle := Nat.le_of_dvd (by omega) hd
      have h0 : d ≠ 0 := fun e => by subst e; have := Nat.eq_zero_of_zero_dvd hd; omega
      obtain ⟨q, hq, hqd⟩ := ih d (by omega) (by omega)
      exact ⟨q, hq, Nat.dvd_trans hqd hd⟩

theorem Prime.coprime {q a : Nat} (hq : Prime q) (h : ¬ q ∣ a) : Nat.Coprime q a := by
  rcases hq.2 (Nat.gcd q a) (Nat.gcd_dvd_left q a) with h1 | h1
  · exact h1
  · exact absurd (h1 ▸ Nat.gcd_dvd_right q a) h

theorem Prime.dvd_mul {q a b : Nat} (hq : Prime q) (h : q ∣ a * b) : q ∣ a ∨ q ∣ b := by
  by_cases ha : q ∣ a
  · exact .inl ha
  · exact .inr ((hq.coprime ha).dvd_of_dvd_mul_left h)

theorem Prime.dvd_pow {q a n : Nat} (hq : Prime q) (h : q ∣ a ^ n) : q ∣ a := by
  induction n with
  | zero => rw [Nat.pow_zero] at h; have := Nat.le_of_dvd (by omega) h; have := hq.1; omega
  | succ n ih =>
    rw [Nat.pow_succ] at h
    rcases hq.dvd_mul h with h | h
    · exact ih h
    · exact h

theorem Prime.eq_of_dvd {q r : Nat} (hq : Prime q) (hr : Prime r) (h : q ∣ r) : q = r := by
  rcases hr.2 q h with h | h
  · have := hq.1; omega
  · exact h

/-! ### Orders -/
section
variable {p : Nat} [NeZero p]
/-- The order of a residue. -/
def Ord (a : Fin p) (n : Nat) : Prop := 0 < n ∧ pw a n = 1 ∧ ∀ m, 0 < m → m < n → pw a m ≠ 1

theorem pw_mod {a : Fin p} {n : Nat} (h : pw a n = 1) (m : Nat) : pw a m = pw a (m % n) := by
  have e : m = n * (m / n) + m % n := (Nat.div_add_mod m n).symm
  conv => lhs; rw [e]
  rw [pw_add, pw_mul, h, one_pw]; grind

theorem Ord.dvd {a : Fin p} {n m : Nat} (h : Ord a n) : pw a m = 1 ↔ n ∣ m := by
  constructor
  · intro hm
    apply Classical.byContradiction
    intro hnd
    have hlt := Nat.mod_lt m h.1
    have hne : 0 < m % n := Nat.pos_of_ne_zero fun h0 => hnd (Nat.dvd_of_mod_eq_zero h0)
    exact h.2.2 _ hne hlt (by rw [← pw_mod h.2.1]; exact hm)
  · rintro ⟨k, rfl⟩
    rw [pw_mul, h.2.1, one_pw]

theorem ord_exists {a : Fin p} {N : Nat} (hN : 0 < N) (h : pw a N = 1) : ∃ d, Ord a d ∧ d ∣ N := by
  have : ∃ d, Ord a d := by
    induction N using Nat.strongRecOn with
    | _ N ih =>
      by_cases hm : ∃ m, 0 < m ∧ m < N ∧ pw a m = 1
      · obtain ⟨m, h0, h1, h2⟩ := hm
        exact ih m h1 h0 h2
      · exact ⟨N, hN, h, fun m h0 h1 h2 => hm ⟨m, h0, h1, h2⟩⟩
  obtain ⟨d, hd⟩ := this
  exact ⟨d, hd, hd.dvd.1 h⟩

/-- Lucas: of order N, if the N-th power is 1 and no N / q-th is. -/
theorem lucas {a : Fin p} {N : Nat} (hN : 0 < N) (h : pw a N = 1) (hq : ∀ q, Prime q → q ∣ N → pw a (N / q) ≠ 1) : Ord a N := by
  obtain ⟨d, hd, k, rfl⟩ := ord_exists hN h
  by_cases hk : k = 1
  · subst hk; simpa using hd
  · have hk2 : 2 ≤ k := by
      rcases Nat.eq_zero_or_pos k with h0 | h0
      · subst h0; simp at hN
      · omega
    obtain ⟨q, hqp, c, rfl⟩ := prime_factor k hk2
    have hq0 : 0 < q := by have := hqp.1; omega
    refine absurd ?_ (hq q hqp ⟨d * c, by rw [Nat.mul_left_comm]⟩)
    rw [show d * (q * c) / q = d * c by rw [Nat.mul_left_comm, Nat.mul_div_cancel_left _ hq0], pw_mul, hd.2.1, one_pw]

theorem Ord.inj {a : Fin p} {n i j : Nat} (h : Ord a n) (hi : i < n) (hj : j < n) (e : pw a i = pw a j) : i = j := by
  have key : ∀ i j, i < j → j < n → pw a i = pw a j → False := by
    intro i j hij hjn e
    have hu : pw a i * pw a (n - i) = 1 := by rw [← pw_add, show i + (n - i) = n by omega, h.2.1]
    have : pw a (j - i) = 1 := by
      have e2 : pw a j = pw a i * pw a (j - i) := by rw [← pw_add, show i + (j - i) = j by omega]
      rw [e2] at e
      have : pw a (j - i) = pw a i * pw a (n - i) * pw a (j - i) := by rw [hu]; grind
      rw [this]
      grind
    exact h.2.2 (j - i) (by omega) (by omega) this
  rcases Nat.lt_trichotomy i j with h1 | h1 | h1
  · exact (key i j h1 hj e).elim
  · exact h1
  · exact (key j i h1 hi e.symm).elim

theorem zt_val_eq (a : Fin p) : (zt p (a.val : Int)) = a := zt_of_val a

theorem one_ne_zero (hp : 2 ≤ p) : (1 : Fin p) ≠ 0 := by
  intro h
  have h2 : ((1 : Fin p).val) = ((0 : Fin p).val) := by rw [h]
  have : (1 : Fin p).val = 1 % p := rfl
  rw [this, Nat.mod_eq_of_lt (by omega)] at h2
  simp at h2

theorem unit_ne_zero (hp : 2 ≤ p) {a b : Fin p} (h : a * b = 1) : a ≠ 0 := by
  intro h0
  subst h0
  exact one_ne_zero hp (by rw [← h]; grind)

/-- If some residue has order p - 1, each residue but 0 is one of its powers. -/
theorem Ord.all (hp : 2 ≤ p) {g : Fin p} (h : Ord g (p - 1)) (x : Fin p) (hx : x ≠ 0) : ∃ i, i < p - 1 ∧ pw g i = x := by
  have hne : ∀ i, pw g i ≠ 0 := fun i => by
    have h1 : pw g i * pw g ((p - 1) * i - i) = 1 := by
      rw [← pw_add]
      have : i + ((p - 1) * i - i) = (p - 1) * i := by
        have : i ≤ (p - 1) * i := Nat.le_mul_of_pos_left i (by omega)
        omega
      rw [this, pw_mul, h.2.1, one_pw]
    exact unit_ne_zero hp h1
  have hv : ∀ y : Fin p, y ≠ 0 → 0 < y.val := fun y hy => Nat.pos_of_ne_zero fun h0 => hy (Fin.ext (by simpa using h0))
  have hx0 := hv x hx
  obtain ⟨i, hi, he⟩ := onto_of_inj (p - 1) (fun i => (pw g i).val - 1) (fun i hi => by
    have := hv _ (hne i); have := (pw g i).isLt; try dsimp only
    omega) (fun i j hi hj he => by
    try dsimp only at he
    have h1 := hv _ (hne i); have h2 := hv _ (hne j)
    exact h.inj hi hj (Fin.ext (by omega))) (x.val - 1) (by have := x.isLt; omega)
  try dsimp only at he
  exact ⟨i, hi, Fin.ext (by have := hv _ (hne i); omega)⟩

/-- .. and p is a prime. -/
theorem prime_of_ord (hp : 2 ≤ p) {g : Fin p} (h : Ord g (p - 1)) : Prime p := by
  refine ⟨hp, fun d hd => ?_⟩
  obtain ⟨c, hc⟩ := hd
  by_cases hd1 : d = 1
  · exact .inl hd1
  · by_cases hdp : d = p
    · exact .inr hdp
    · exfalso
      have hd0 : d ≠ 0 := fun e => by subst e; omega
      have hdlt : d < p := by have := Nat.le_of_dvd (by omega) (show d ∣ p from ⟨c, hc⟩); omega
      have hc0 : c ≠ 0 := fun e => by subst e; omega
      have hclt : c < p := by
        have : c * 2 ≤ c * d := Nat.mul_le_mul_left c (by omega)
        rw [Nat.mul_comm c d] at this
        omega
      have e0 : (⟨d, hdlt⟩ : Fin p) * ⟨c, hclt⟩ = 0 := by
        apply Fin.ext
        rw [Fin.val_mul]
        show d * c % p = 0
        rw [← hc, Nat.mod_self]
      obtain ⟨i, hi, hdi⟩ := h.all hp ⟨d, hdlt⟩ (fun e => hd0 (by simpa using congrArg Fin.val e))
      have hu : pw g (p - 1 - i) * pw g i = 1 := by rw [← pw_add, show p - 1 - i + i = p - 1 by omega, h.2.1]
      have : (⟨c, hclt⟩ : Fin p) = 0 := by
        have e1 : (⟨c, hclt⟩ : Fin p) = pw g (p - 1 - i) * (pw g i * ⟨c, hclt⟩) := by
          have : pw g (p - 1 - i) * (pw g i * ⟨c, hclt⟩) = (pw g (p - 1 - i) * pw g i) * ⟨c, hclt⟩ := by grind
          rw [this, hu]; grind
        rw [e1, hdi, e0]; grind
      exact hc0 (by simpa using congrArg Fin.val this)
end

/-! ### In the field -/
section
variable {p : Nat} [NeZero p]
theorem inv_aux (hp : Prime p) (n : Nat) : ∀ a : Nat, 0 < a → a < p → a ≤ n → ∃ b : Fin p, zt p (a : Int) * b = 1 := by
  induction n with
  | zero => intro a h0 _ h; omega
  | succ n ih =>
    intro a h0 h1 h2
    by_cases ha1 : a = 1
    · subst ha1
      exact ⟨1, by rw [show ((1 : Nat) : Int) = 1 from rfl, zt_one]; grind⟩
    · have hr : p % a ≠ 0 := fun h => by
        rcases hp.2 a (Nat.dvd_of_mod_eq_zero h) with h3 | h3 <;> omega
      have hlt := Nat.mod_lt p h0
      obtain ⟨s, hs⟩ := ih (p % a) (by omega) (by omega) (by omega)
      refine ⟨-(zt p ((p / a : Nat) : Int)) * s, ?_⟩
      have e : zt p (a : Int) * zt p ((p / a : Nat) : Int) + zt p ((p % a : Nat) : Int) = 0 := by
        rw [← zt_mul, ← zt_add]
        have : (a : Int) * ((p / a : Nat) : Int) + ((p % a : Nat) : Int) = (p : Int) := by
          rw [← Int.natCast_mul, ← Int.natCast_add, Nat.div_add_mod]
        rw [this, ← zt_emod, Int.emod_self, zt_zero]
      grind
theorem inv_exists (hp : Prime p) (x : Fin p) (hx : x ≠ 0) : ∃ b : Fin p, x * b = 1 := by
  have h0 : 0 < x.val := Nat.pos_of_ne_zero fun h => hx (Fin.ext (by simpa using h))
  obtain ⟨b, hb⟩ := inv_aux hp x.val x.val h0 x.isLt (Nat.le_refl _)
  exact ⟨b, by rw [← zt_of_val x]; exact hb⟩
theorem mul_cancel (hp : Prime p) {x a b : Fin p} (hx : x ≠ 0) (h : x * a = x * b) : a = b := by
  obtain ⟨y, hy⟩ := inv_exists hp x hx
  have : ∀ c, c = y * (x * c) := fun c => by
    have : y * (x * c) = (x * y) * c := by grind
    rw [this, hy]; grind
  rw [this a, h, ← this b]
theorem mul_zero_of (hp : Prime p) {a b : Fin p} (h : a * b = 0) : a = 0 ∨ b = 0 := by
  by_cases ha : a = 0
  · exact .inl ha
  · exact .inr (mul_cancel hp ha (by rw [h]; grind))
theorem pw_ne_zero (hp : Prime p) {a : Fin p} (ha : a ≠ 0) (n : Nat) : pw a n ≠ 0 := by
  induction n with
  | zero => rw [pw_zero]; exact one_ne_zero hp.1
  | succ n ih =>
    rw [pw_succ]; intro h
    rcases mul_zero_of hp h with h | h
    · exact ih h
    · exact ha h

theorem fd_pw (x : Fin p) (n : Nat) (F : Nat → Fin p) : fd (· * ·) 1 n (fun i => x * F i) = pw x n * fd (· * ·) 1 n F := by
  induction n with
  | zero => simp only [fd, pw_zero]; grind
  | succ n ih => simp only [fd, pw_succ]; rw [ih]; grind
theorem fd_ne_zero (hp : Prime p) (n : Nat) (F : Nat → Fin p) (h : ∀ i, i < n → F i ≠ 0) : fd (· * ·) 1 n F ≠ 0 := by
  induction n with
  | zero => exact one_ne_zero hp.1
  | succ n ih =>
    simp only [fd]; intro h0
    rcases mul_zero_of hp h0 with h1 | h1
    · exact ih (fun i hi => h i (by omega)) h1
    · exact h n (by omega) h1

/-- Fermat. -/
theorem fermat (hp : Prime p) (x : Fin p) (hx : x ≠ 0) : pw x (p - 1) = 1 := by
  have h2 := hp.1
  have hv : ∀ y : Fin p, y ≠ 0 → 0 < y.val := fun y hy => Nat.pos_of_ne_zero fun h0 => hy (Fin.ext (by simpa using h0))
  have hF : ∀ i, i < p - 1 → zt p ((i + 1 : Nat) : Int) ≠ 0 := fun i hi h => by
    have h1 := zt_val (p := p) ((i + 1 : Nat) : Int)
    rw [h, Int.emod_eq_of_lt (by omega) (by omega)] at h1
    simp at h1
    omega
  have hne : ∀ i, i < p - 1 → x * zt p ((i + 1 : Nat) : Int) ≠ 0 := fun i hi h => by
    rcases mul_zero_of hp h with h | h
    · exact hx h
    · exact hF i hi h
  have hz : ∀ i, i < p - 1 → (zt p ((i + 1 : Nat) : Int)).val = i + 1 := fun i hi => by
    have h1 := zt_val (p := p) ((i + 1 : Nat) : Int)
    rw [Int.emod_eq_of_lt (by omega) (by omega)] at h1
    omega
  have key := fd_perm (· * ·) (1 : Fin p) (fun a b c => by grind) (fun a b => by grind) (p - 1) (fun i => (x * zt p ((i + 1 : Nat) : Int)).val - 1) (fun i => zt p ((i + 1 : Nat) : Int))
    (fun i hi => by have := hv _ (hne i hi); have := (x * zt p ((i + 1 : Nat) : Int)).isLt; omega)
    (fun i j hi hj h => by
      try dsimp only at h
      have h1 := hv _ (hne i hi); have h3 := hv _ (hne j hj)
      have : x * zt p ((i + 1 : Nat) : Int) = x * zt p ((j + 1 : Nat) : Int) := Fin.ext (by omega)
      have h4 := congrArg Fin.val (mul_cancel hp hx this)
      rw [hz i hi, hz j hj] at h4
      omega)
  rw [fd_congr _ _ (g := fun i => x * zt p ((i + 1 : Nat) : Int)) (fun i hi => by
    have := hv _ (hne i hi)
    try dsimp only
    rw [show ((x * zt p ((i + 1 : Nat) : Int)).val - 1 + 1) = (x * zt p ((i + 1 : Nat) : Int)).val by omega, zt_of_val]), fd_pw] at key
  have hnz := fd_ne_zero hp (p - 1) (fun i => zt p ((i + 1 : Nat) : Int)) hF
  refine mul_cancel hp hnz ?_
  rw [← key]
  grind

/-! ### Roots of polynomials -/
def ev : List (Fin p) → Fin p → Fin p
  | [], _ => 0
  | c :: t, x => c + x * ev t x
def qd : List (Fin p) → Fin p → List (Fin p)
  | [], _ => []
  | [_], _ => []
  | _ :: c :: t, r => ev (c :: t) r :: qd (c :: t) r
theorem qd_length (cs : List (Fin p)) (r : Fin p) : (qd cs r).length = cs.length - 1 := by
  induction cs with
  | nil => rfl
  | cons c t ih => cases t with
    | nil => rfl
    | cons d t => simp only [qd, List.length_cons, ih]; omega
theorem ev_qd (cs : List (Fin p)) (r x : Fin p) : ev cs x - ev cs r = (x - r) * ev (qd cs r) x := by
  induction cs with
  | nil => simp only [ev, qd]; grind
  | cons c t ih => cases t with
    | nil => simp only [ev, qd]; grind
    | cons d t =>
      have e1 : ev (c :: d :: t) x = c + x * ev (d :: t) x := rfl
      have e2 : ev (c :: d :: t) r = c + r * ev (d :: t) r := rfl
      have e3 : ev (qd (c :: d :: t) r) x = ev (d :: t) r + x * ev (qd (d :: t) r) x := rfl
      rw [e1, e2, e3]
      grind
theorem qd_zero (cs : List (Fin p)) (r : Fin p) (h : ∀ c ∈ qd cs r, c = 0) (hr : ev cs r = 0) : ∀ c ∈ cs, c = 0 := by
  induction cs with
  | nil => intro c hc; cases hc
  | cons a t ih => cases t with
    | nil =>
      intro c hc
      simp only [List.mem_singleton] at hc
      subst hc
      simp only [ev] at hr; grind
    | cons d t =>
      have h1 : ev (d :: t) r = 0 := h _ (by simp [qd])
      have ht := ih (fun c hc => h c (by simp only [qd, List.mem_cons]; exact .inr hc)) h1
      intro c hc
      rcases List.mem_cons.1 hc with rfl | hc
      · have e2 : ev (c :: d :: t) r = c + r * ev (d :: t) r := rfl
        rw [e2, h1] at hr; grind
      · exact ht c hc
theorem roots_few (hp : Prime p) (rs : List (Fin p)) : ∀ cs : List (Fin p), rs.Nodup → (∀ r ∈ rs, ev cs r = 0) → cs.length ≤ rs.length → ∀ c ∈ cs, c = 0 := by
  induction rs with
  | nil => intro cs _ _ h c hc; have : cs = [] := List.eq_nil_of_length_eq_zero (by simpa using h); subst this; cases hc
  | cons r rs ih =>
    intro cs hnd hr hl
    have hr0 := hr r (by simp)
    refine qd_zero cs r (ih (qd cs r) (List.nodup_cons.1 hnd).2 (fun s hs => ?_) (by rw [qd_length]; simp at hl; omega)) hr0
    have hne : s - r ≠ 0 := fun h => (List.nodup_cons.1 hnd).1 (by
      have : s = r := by grind
      rw [← this]; exact hs)
    have e := ev_qd cs r s
    rw [hr s (by simp [hs]), hr0] at e
    rcases mul_zero_of hp (show (s - r) * ev (qd cs r) s = 0 by rw [← e]; grind) with h | h
    · exact absurd h hne
    · exact h
theorem ev_append (l : List (Fin p)) (m : List (Fin p)) (x : Fin p) : ev (l ++ m) x = ev l x + pw x l.length * ev m x := by
  induction l with
  | nil => simp only [List.nil_append, ev, List.length_nil, pw_zero]; grind
  | cons c t ih => simp only [List.cons_append, ev, List.length_cons, pw_succ]; rw [ih]; grind
theorem ev_zeros (n : Nat) (x : Fin p) : ev (List.replicate n 0) x = 0 := by
  induction n with
  | zero => rfl
  | succ n ih => rw [List.replicate_succ, ev, ih]; grind
theorem few_unit_roots (hp : Prime p) (d : Nat) (hd : 0 < d) (rs : List (Fin p)) (hnd : rs.Nodup) (h : ∀ r ∈ rs, pw r d = 1) : rs.length ≤ d := by
  apply Classical.byContradiction
  intro hlt
  have := roots_few hp rs ((-1 : Fin p) :: (List.replicate (d - 1) 0 ++ [1])) hnd (fun r hr => by
    rw [ev, ev_append, ev_zeros, List.length_replicate]
    simp only [ev]
    have e : pw r d = pw r (d - 1) * r := by rw [← pw_succ, Nat.sub_add_cancel hd]
    have := h r hr
    grind) (by simp; omega) 1 (by simp)
  exact one_ne_zero hp.1 this

/-- Some residue's ((p - 1) / q)-th power isn't 1. -/
theorem non_root (hp : Prime p) (d : Nat) (h0 : 0 < d) (hd : d < p - 1) : ∃ x : Fin p, x ≠ 0 ∧ pw x d ≠ 1 := by
  apply Classical.byContradiction
  intro hno
  have hall : ∀ x : Fin p, x ≠ 0 → pw x d = 1 := fun x hx => Classical.byContradiction fun h => hno ⟨x, hx, h⟩
  have hmem : ∀ r ∈ (List.range (p - 1)).map (fun i => zt p ((i + 1 : Nat) : Int)), r ≠ 0 := by
    intro r hr
    obtain ⟨i, hi, rfl⟩ := List.mem_map.1 hr
    have hi' := List.mem_range.1 hi
    intro h
    have h1 := zt_val (p := p) ((i + 1 : Nat) : Int)
    rw [h, Int.emod_eq_of_lt (by omega) (by omega)] at h1
    simp at h1
    omega
  have := few_unit_roots hp d h0 ((List.range (p - 1)).map (fun i => zt p ((i + 1 : Nat) : Int))) (by
    rw [List.Nodup, List.pairwise_map]
    refine List.Pairwise.imp_of_mem ?_ (List.nodup_range (n := p - 1))
    intro a b ha hb hab h
    have h1 := congrArg (fun z : Fin p => ((z.val : Nat) : Int)) h
    try dsimp only at h1
    have ha' := List.mem_range.1 ha
    have hb' := List.mem_range.1 hb
    rw [zt_val, zt_val, Int.emod_eq_of_lt (by omega) (by omega), Int.emod_eq_of_lt (by omega) (by omega)] at h1
    omega) (fun r hr => hall r (hmem r hr))
  simp at this
  omega

theorem ord_primepow (hp : Prime p) {q e : Nat} (hq : Prime q) (he : 0 < e) (hd : q ^ e ∣ p - 1) : ∃ y : Fin p, Ord y (q ^ e) := by
  have h2 := hp.1
  have hq2 := hq.1
  obtain ⟨k, hk⟩ := hd
  have hk0 : 0 < k := Nat.pos_of_ne_zero fun h => by subst h; omega
  have hqe : 0 < q ^ e := Nat.pow_pos (by omega)
  have hsplit : q ^ e = q ^ (e - 1) * q := by rw [← Nat.pow_succ, Nat.succ_eq_add_one, Nat.sub_add_cancel he]
  have hqe1 : 0 < q ^ (e - 1) := Nat.pow_pos (by omega)
  obtain ⟨x, hx, hxn⟩ := non_root hp (q ^ (e - 1) * k) (Nat.mul_pos hqe1 hk0) (by
    rw [hk, hsplit, Nat.mul_assoc]
    refine Nat.mul_lt_mul_of_pos_left ?_ hqe1
    have : 2 * k ≤ q * k := Nat.mul_le_mul_right k hq2
    omega)
  refine ⟨pw x k, lucas hqe ?_ fun r hr hrd => ?_⟩
  · rw [← pw_mul, Nat.mul_comm, ← hk]; exact fermat hp x hx
  · have : r = q := hr.eq_of_dvd hq (hr.dvd_pow hrd)
    subst this
    rw [hsplit, Nat.mul_div_cancel _ (by omega), ← pw_mul, Nat.mul_comm]
    exact hxn

theorem exists_ord (hp : Prime p) (N : Nat) : N ∣ p - 1 → 0 < N → ∃ z : Fin p, Ord z N := by
  induction N using Nat.strongRecOn with
  | _ N ih =>
    intro hd h0
    by_cases h1 : N = 1
    · subst h1
      exact ⟨1, by omega, one_pw 1, fun m h0 h1 => by omega⟩
    · obtain ⟨q, hq, hqN⟩ := prime_factor N (by omega)
      have hq2 := hq.1
      -- the greatest power of q in N
      have : ∃ e M, N = q ^ e * M ∧ ¬ q ∣ M ∧ 0 < e := by
        have aux : ∀ n, 0 < n → ∃ e M, n = q ^ e * M ∧ ¬ q ∣ M := by
          intro n
          induction n using Nat.strongRecOn with
          | _ n ihn =>
            intro hn
            by_cases hqn : q ∣ n
            · obtain ⟨c, rfl⟩ := hqn
              have hc : 0 < c := Nat.pos_of_ne_zero fun h => by subst h; omega
              obtain ⟨e, M, hM, hnd⟩ := ihn c (by have : 2 * c ≤ q * c := Nat.mul_le_mul_right c hq2; omega) hc
              exact ⟨e + 1, M, by rw [hM, Nat.pow_succ]; rw [Nat.mul_comm (q ^ e) q, Nat.mul_assoc], hnd⟩
            · exact ⟨0, n, by simp, hqn⟩
        obtain ⟨e, M, hM, hnd⟩ := aux N h0
        refine ⟨e, M, hM, hnd, Nat.pos_of_ne_zero fun he => ?_⟩
        subst he
        simp at hM
        exact hnd (hM ▸ hqN)
      obtain ⟨e, M, rfl, hnd, he⟩ := this
      have hqe : 0 < q ^ e := Nat.pow_pos (by omega)
      have hM0 : 0 < M := Nat.pos_of_ne_zero fun h => by subst h; simp at h0
      have hsplit : q ^ e = q ^ (e - 1) * q := by rw [← Nat.pow_succ, Nat.succ_eq_add_one, Nat.sub_add_cancel he]
      have hqe1 : 0 < q ^ (e - 1) := Nat.pow_pos (by omega)
      have hqe2 : 2 ≤ q ^ e := by rw [hsplit]; have : 1 * 2 ≤ q ^ (e - 1) * q := Nat.mul_le_mul hqe1 hq2; omega
      obtain ⟨z, hz⟩ := ih M (by have : 2 * M ≤ q ^ e * M := Nat.mul_le_mul_right M hqe2; omega) (Nat.dvd_trans (Nat.dvd_mul_left M _) hd) hM0
      obtain ⟨y, hy⟩ := ord_primepow hp hq he (Nat.dvd_trans (Nat.dvd_mul_right _ M) hd)
      refine ⟨z * y, lucas h0 ?_ fun r hr hrd => ?_⟩
      · rw [mul_pw, Nat.mul_comm, pw_mul, hz.2.1, one_pw, Nat.mul_comm, pw_mul, hy.2.1, one_pw]; grind
      · have hr2 := hr.1
        rcases hr.dvd_mul hrd with h | h
        · have : r = q := hr.eq_of_dvd hq (hr.dvd_pow h)
          subst this
          have e1 : r ^ e * M / r = M * r ^ (e - 1) := by
            rw [hsplit, show r ^ (e - 1) * r * M = r * (M * r ^ (e - 1)) by rw [Nat.mul_comm (r ^ (e-1)) r, Nat.mul_assoc, Nat.mul_comm (r ^ (e-1)) M], Nat.mul_div_cancel_left _ (by omega)]
          rw [e1, mul_pw, pw_mul z, hz.2.1, one_pw]
          intro hone
          have : pw y (M * r ^ (e - 1)) = 1 := by rw [← hone]; grind
          have hdv := hy.dvd.1 this
          rw [hsplit, Nat.mul_comm M] at hdv
          exact hnd (Nat.dvd_of_mul_dvd_mul_left hqe1 hdv)
        · obtain ⟨c, rfl⟩ := h
          have hc0 : 0 < c := Nat.pos_of_ne_zero fun h => by subst h; omega
          have e1 : q ^ e * (r * c) / r = q ^ e * c := by rw [Nat.mul_left_comm, Nat.mul_div_cancel_left _ (by omega)]
          rw [e1, mul_pw, pw_mul y, hy.2.1, one_pw]
          intro hone
          have : pw z (q ^ e * c) = 1 := by rw [← hone]; grind
          have hdv := hz.dvd.1 this
          have : r ∣ q ^ e := Nat.dvd_of_mul_dvd_mul_right hc0 hdv
          have : r = q := hr.eq_of_dvd hq (hr.dvd_pow this)
          subst this
          exact hnd (Nat.dvd_mul_right r c)

/-- A prime has a residue whose powers are all. -/
theorem primitive (hp : Prime p) : ∃ g : Fin p, Ord g (p - 1) := exists_ord hp (p - 1) (Nat.dvd_refl _) (by have := hp.1; omega)
end
end Go.Proofs.YtmalmijdjhkklaaGreat.Alg
end

section
/- Transforms over residues: by the sum, by halves, by quarters; there and back. -/
namespace Go.Proofs.YtmalmijdjhkklaaGreat.Alg
section
variable {p : Nat} [NeZero p]

/-- The transform's i-th sum. -/
def dft (w : Fin p) (n : Nat) (a : Nat → Fin p) (i : Nat) : Fin p := sm n fun j => pw w (i * j) * a j
theorem dft_congr {w : Fin p} {n : Nat} {a b : Nat → Fin p} (h : ∀ j, j < n → a j = b j) (i : Nat) : dft w n a i = dft w n b i :=
  sm_congr fun j hj => by rw [h j hj]
theorem dft_one (w : Fin p) (a : Nat → Fin p) (i : Nat) : dft w 1 a i = a 0 := by
  unfold dft
  rw [sm_succ, sm_zero, Nat.mul_zero, pw_zero]; grind
theorem dft_period {w : Fin p} {n : Nat} (h : pw w n = 1) (a : Nat → Fin p) (i k : Nat) : dft w n a (i + n * k) = dft w n a i :=
  sm_congr fun j _ => by
    rw [Nat.add_mul, pw_add, Nat.mul_assoc, pw_mul w n, h, one_pw]; grind
theorem sm_double (n : Nat) (f : Nat → Fin p) : sm (2 * n) f = sm n (fun i => f (2 * i)) + sm n (fun i => f (2 * i + 1)) := by
  induction n with
  | zero => rw [Nat.mul_zero, sm_zero, sm_zero, sm_zero]; grind
  | succ n ih => rw [show 2 * (n + 1) = 2 * n + 1 + 1 by omega, sm_succ, sm_succ, sm_succ, sm_succ, ih]; grind
theorem sm_quad (n : Nat) (f : Nat → Fin p) : sm (4 * n) f = sm n (fun i => f (4 * i)) + sm n (fun i => f (4 * i + 1)) + sm n (fun i => f (4 * i + 2)) + sm n (fun i => f (4 * i + 3)) := by
  induction n with
  | zero => rw [Nat.mul_zero, sm_zero, sm_zero, sm_zero, sm_zero, sm_zero]; grind
  | succ n ih => rw [show 4 * (n + 1) = 4 * n + 1 + 1 + 1 + 1 by omega, sm_succ, sm_succ, sm_succ, sm_succ, sm_succ, sm_succ, sm_succ, sm_succ, ih]; grind
theorem pw_two (w : Fin p) (k : Nat) : pw w (2 * k) = pw (w * w) k := by rw [pw_mul]; congr 1; rw [pw_succ, pw_one]
theorem pw_four (w : Fin p) (k : Nat) : pw w (4 * k) = pw (pw w 4) k := pw_mul w 4 k
/-- By halves, from the numbers at even places, and at odd ones. -/
theorem dft_even_odd (w : Fin p) (m : Nat) (a : Nat → Fin p) (i : Nat) : dft w (2 * m) a i = dft (w * w) m (fun j => a (2 * j)) i + pw w i * dft (w * w) m (fun j => a (2 * j + 1)) i := by
  unfold dft
  rw [sm_double, ← sm_mul]
  congr 1
  · exact sm_congr fun j _ => by rw [show i * (2 * j) = 2 * (i * j) by rw [Nat.mul_left_comm], pw_two]
  · exact sm_congr fun j _ => by
      rw [show i * (2 * j + 1) = i + 2 * (i * j) by rw [Nat.mul_add, Nat.mul_left_comm, Nat.mul_one]; omega, pw_add, pw_two]; grind
theorem dft_up_low (w : Fin p) (m : Nat) (a : Nat → Fin p) (i : Nat) : dft w (2 * m) a i = dft (w * w) m (fun j => a (2 * j)) i + pw w i * dft (w * w) m (fun j => a (2 * j + 1)) i := dft_even_odd w m a i
theorem dft_up_high {w : Fin p} {m : Nat} (hm : pw w m = -1) (a : Nat → Fin p) (i : Nat) : dft w (2 * m) a (i + m) = dft (w * w) m (fun j => a (2 * j)) i - pw w i * dft (w * w) m (fun j => a (2 * j + 1)) i := by
  have h1 : pw (w * w) m = 1 := by rw [mul_pw, hm]; grind
  have e := fun b => dft_period h1 b i 1
  simp only [Nat.mul_one] at e
  rw [dft_even_odd, e, e, pw_add, hm]; grind
/-- By halves, from both halves of the list. -/
theorem dft_down_even {w : Fin p} {m : Nat} (hm : pw w m = -1) (a : Nat → Fin p) (i : Nat) : dft w (2 * m) a (2 * i) = dft (w * w) m (fun j => a j + a (j + m)) i := by
  unfold dft
  rw [Nat.two_mul m, sm_split, ← sm_add]
  refine sm_congr fun j _ => ?_
  have h1 : pw w (2 * i * (m + j)) = pw w (2 * i * j) := by
    rw [Nat.mul_add, pw_add, show 2 * i * m = m * (2 * i) by rw [Nat.mul_comm], pw_mul w m, hm, pw_two, show (-1 : Fin p) * -1 = 1 by grind, one_pw]; grind
  rw [h1, show 2 * i * j = 2 * (i * j) by rw [Nat.mul_assoc], pw_two, Nat.add_comm m j]; grind
theorem dft_down_odd {w : Fin p} {m : Nat} (hm : pw w m = -1) (a : Nat → Fin p) (i : Nat) : dft w (2 * m) a (2 * i + 1) = dft (w * w) m (fun j => pw w j * (a j - a (j + m))) i := by
  unfold dft
  rw [Nat.two_mul m, sm_split, ← sm_add]
  refine sm_congr fun j _ => ?_
  have h1 : pw w ((2 * i + 1) * (m + j)) = - pw w ((2 * i + 1) * j) := by
    rw [Nat.mul_add, pw_add, show (2 * i + 1) * m = m * (2 * i) + m by rw [Nat.add_mul, Nat.one_mul, Nat.mul_comm (2 * i) m], pw_add, pw_mul w m, hm, pw_two, show (-1 : Fin p) * -1 = 1 by grind, one_pw]; grind
  rw [h1, show (2 * i + 1) * j = 2 * (i * j) + j by rw [Nat.add_mul, Nat.one_mul, Nat.mul_assoc], pw_add, pw_two, Nat.add_comm m j]; grind
/-- By quarters. -/
theorem dft_quarters (w : Fin p) (m : Nat) (a : Nat → Fin p) (i : Nat) : dft w (4 * m) a i =
    dft (pw w 4) m (fun j => a (4 * j)) i + pw w i * dft (pw w 4) m (fun j => a (4 * j + 1)) i + pw w (2 * i) * dft (pw w 4) m (fun j => a (4 * j + 2)) i + pw w (3 * i) * dft (pw w 4) m (fun j => a (4 * j + 3)) i := by
  unfold dft
  rw [sm_quad, ← sm_mul, ← sm_mul, ← sm_mul]
  have e0 : ∀ j, i * (4 * j) = 4 * (i * j) := fun j => by rw [Nat.mul_left_comm]
  have e1 : ∀ j r, i * (4 * j + r) = r * i + 4 * (i * j) := fun j r => by rw [Nat.mul_add, Nat.mul_left_comm, Nat.mul_comm i r]; omega
  congr 1
  · congr 1
    · congr 1
      · exact sm_congr fun j _ => by rw [e0, pw_four]
      · exact sm_congr fun j _ => by rw [e1, pw_add, pw_four, Nat.one_mul]; grind
    · exact sm_congr fun j _ => by rw [e1, pw_add, pw_four]; grind
  · exact sm_congr fun j _ => by rw [e1, pw_add, pw_four]; grind

/-- The sum of a root's powers. -/
theorem geo (x : Fin p) (n : Nat) : (1 - x) * sm n (fun j => pw x j) = 1 - pw x n := by
  induction n with
  | zero => rw [sm_zero, pw_zero]; grind
  | succ n ih => rw [sm_succ, pw_succ]; grind
theorem sm_one_all (n : Nat) : sm n (fun _ => (1 : Fin p)) = zt p (n : Int) := by
  induction n with
  | zero => rw [sm_zero]; exact zt_zero.symm
  | succ n ih => rw [sm_succ, ih, Int.natCast_succ, zt_add, zt_one]
theorem orth {w : Fin p} {n : Nat} (hp : Prime p) (hw : Ord w n) (k : Nat) : sm n (fun j => pw w (k * j)) = if n ∣ k then zt p (n : Int) else 0 := by
  split
  · rename_i h
    obtain ⟨c, rfl⟩ := h
    rw [← sm_one_all]
    exact sm_congr fun j _ => by rw [Nat.mul_assoc, pw_mul, hw.2.1, one_pw]
  · rename_i h
    have h1 : pw w k ≠ 1 := fun h1 => h (hw.dvd.1 h1)
    have h2 := geo (pw w k) n
    rw [← pw_mul, Nat.mul_comm k n, pw_mul, hw.2.1, one_pw] at h2
    rw [show sm n (fun j => pw w (k * j)) = sm n (fun j => pw (pw w k) j) from sm_congr fun j _ => pw_mul w k j]
    rcases mul_zero_of hp (show (1 - pw w k) * sm n (fun j => pw (pw w k) j) = 0 by rw [h2]; grind) with h3 | h3
    · exact absurd (show pw w k = 1 by grind) h1
    · exact h3
/-- There and back. -/
theorem dft_back {w v : Fin p} {n : Nat} (hp : Prime p) (hw : Ord w n) (hv : w * v = 1) (a : Nat → Fin p) (i : Nat) (hi : i < n) : dft v n (dft w n a) i = zt p (n : Int) * a i := by
  have hvn : ∀ k, pw w k * pw v k = 1 := fun k => by rw [← mul_pw, hv, one_pw]
  have e1 : dft v n (dft w n a) i = sm n (fun j => sm n (fun k => pw v (i * k) * pw w (k * j)) * a j) := by
    unfold dft
    have : sm n (fun j => pw v (i * j) * sm n (fun j_1 => pw w (j * j_1) * a j_1)) = sm n (fun k => sm n (fun j => pw v (i * k) * pw w (k * j) * a j)) := sm_congr fun k _ => by
      rw [← sm_mul]
      exact sm_congr fun j _ => by grind
    rw [this, sm_swap]
    refine sm_congr fun j _ => ?_
    rw [show sm n (fun i_1 => pw v (i * i_1) * pw w (i_1 * j) * a j) = sm n (fun k => a j * (pw v (i * k) * pw w (k * j))) from sm_congr fun k _ => by grind, sm_mul]; grind
  rw [e1, sm_one i hi]
  · congr 1
    rw [← sm_one_all]
    exact sm_congr fun k _ => by rw [Nat.mul_comm k i]; have := hvn (i * k); grind
  · intro j hj hne
    have e2 : sm n (fun k => pw v (i * k) * pw w (k * j)) = 0 := by
      rcases Nat.lt_or_gt_of_ne hne with h | h
      · -- j < i : v^(i-j)
        have hv' : pw v n = 1 := by have := hvn n; rw [hw.2.1] at this; grind
        have hvo : Ord v n := by
          refine ⟨hw.1, hv', fun m h0 h1 h2 => hw.2.2 m h0 h1 ?_⟩
          have := hvn m
          rw [h2] at this; grind
        have := orth hp hvo (i - j)
        rw [if_neg (fun hd => by have := Nat.le_of_dvd (by omega) hd; omega)] at this
        rw [← this]
        refine sm_congr fun k _ => ?_
        rw [show i * k = (i - j) * k + k * j by rw [Nat.sub_mul, Nat.mul_comm k j]; have : j * k ≤ i * k := Nat.mul_le_mul_right _ (by omega); omega, pw_add]
        have := hvn (k * j); grind
      · have := orth hp hw (j - i)
        rw [if_neg (fun hd => by have := Nat.le_of_dvd (by omega) hd; omega)] at this
        rw [← this]
        refine sm_congr fun k _ => ?_
        rw [show k * j = (j - i) * k + i * k by rw [Nat.sub_mul, Nat.mul_comm k j]; have : i * k ≤ j * k := Nat.mul_le_mul_right _ (by omega); omega, pw_add]
        have := hvn (i * k); grind
    rw [e2]; grind
end
end Go.Proofs.YtmalmijdjhkklaaGreat.Alg
end

section
/- A transform by quarters is that of the whole. -/
set_option linter.unusedVariables false
set_option linter.unusedSectionVars false
namespace Go.Proofs.YtmalmijdjhkklaaGreat
open Alg
section
variable {p : Nat} [NeZero p]
theorem neg_one_of {x : Fin p} (hp : Prime p) (h : x * x = 1) (h1 : x ≠ 1) : x = -1 := by
  rcases mul_zero_of hp (show (x - 1) * (x + 1) = 0 by grind) with h2 | h2
  · exact absurd (show x = 1 by grind) h1
  · grind
theorem half_neg {Ω : Fin p} {N h : Nat} (hp : Prime p) (hΩ : Ord Ω N) (hN : N = 2 * h) : pw Ω h = -1 := by
  have h0 := hΩ.1
  refine neg_one_of hp ?_ (hΩ.2.2 h (by omega) (by omega))
  rw [← pw_add, show h + h = N by omega]
  exact hΩ.2.1
theorem quarters_eq {Ω : Fin p} {m s : Nat} (hp : Prime p) (hΩ : Ord Ω (4 * m * s)) (a : Nat → Fin p) (i : Nat) (hi : i < 4 * m) (hm : 0 < m)
    {t : Nat → Nat → Fin p} (ht : ∀ q k, q < 4 → k < m → t q k = pw Ω (q * k * s) * dft (pw Ω (4 * s)) m (fun j => a (q + 4 * j)) k) :
    dft (pw Ω s) (4 * m) a i =
      if i / m = 0 then (t 0 (i % m) + t 2 (i % m)) + (t 1 (i % m) + t 3 (i % m))
      else if i / m = 1 then (t 0 (i % m) - t 2 (i % m)) + pw Ω (m * s) * (t 1 (i % m) - t 3 (i % m))
      else if i / m = 2 then (t 0 (i % m) + t 2 (i % m)) - (t 1 (i % m) + t 3 (i % m))
      else (t 0 (i % m) - t 2 (i % m)) - pw Ω (m * s) * (t 1 (i % m) - t 3 (i % m)) := by
  have hj : pw Ω (m * s) * pw Ω (m * s) = -1 := by
    rw [← pw_add]
    refine half_neg hp hΩ ?_
    have : 4 * m * s = 4 * (m * s) := Nat.mul_assoc 4 m s
    omega
  have hk : i % m < m := Nat.mod_lt _ hm
  have hr : i / m < 4 := Nat.div_lt_of_lt_mul (by rw [Nat.mul_comm]; exact hi)
  have hd := Nat.div_add_mod i m
  obtain ⟨k, hke⟩ : ∃ k, k = i % m := ⟨_, rfl⟩
  obtain ⟨r, hre⟩ : ∃ r, r = i / m := ⟨_, rfl⟩
  rw [← hke, ← hre] at hd
  rw [← hke] at hk ⊢
  rw [← hre] at hr ⊢
  clear hke hre
  have hw4 : pw (pw Ω s) 4 = pw Ω (4 * s) := by rw [← pw_mul, Nat.mul_comm]
  have hper : pw (pw Ω (4 * s)) m = 1 := by
    rw [← pw_mul, show 4 * s * m = 4 * m * s by rw [Nat.mul_assoc, Nat.mul_comm s m, Nat.mul_assoc]]; exact hΩ.2.1
  have hF : ∀ b : Nat → Fin p, dft (pw Ω (4 * s)) m b i = dft (pw Ω (4 * s)) m b k := fun b => by
    rw [show i = k + m * r by omega, dft_period hper]
  have hw : ∀ q, pw (pw Ω s) (q * i) = pw Ω (q * k * s) * pw (pw Ω (m * s)) (q * r) := fun q => by
    rw [← pw_mul, ← pw_mul, ← pw_add]
    congr 1
    rw [show i = m * r + k by omega, Nat.mul_add, Nat.mul_add]
    have e1 : s * (q * (m * r)) = m * s * (q * r) := by
      rw [Nat.mul_left_comm s q, Nat.mul_left_comm s m, Nat.mul_comm s r, Nat.mul_left_comm q m, Nat.mul_assoc m s, Nat.mul_left_comm s q, Nat.mul_comm s r]
    have e2 : s * (q * k) = q * k * s := Nat.mul_comm _ _
    omega
  rw [dft_quarters, hw4, hF, hF, hF, hF]
  have h1 := hw 1
  have h2 := hw 2
  have h3 := hw 3
  rw [Nat.one_mul] at h1
  rw [h1, h2, h3, ht 0 k (by omega) hk, ht 1 k (by omega) hk, ht 2 k (by omega) hk, ht 3 k (by omega) hk]
  have e0 : (fun j => a (0 + 4 * j)) = (fun j => a (4 * j)) := by funext j; rw [Nat.zero_add]
  have e1 : (fun j => a (1 + 4 * j)) = (fun j => a (4 * j + 1)) := by funext j; rw [Nat.add_comm]
  have e2 : (fun j => a (2 + 4 * j)) = (fun j => a (4 * j + 2)) := by funext j; rw [Nat.add_comm]
  have e3 : (fun j => a (3 + 4 * j)) = (fun j => a (4 * j + 3)) := by funext j; rw [Nat.add_comm]
  rw [e0, e1, e2, e3]
  generalize dft (pw Ω (4 * s)) m (fun j => a (4 * j)) k = F0
  generalize dft (pw Ω (4 * s)) m (fun j => a (4 * j + 1)) k = F1
  generalize dft (pw Ω (4 * s)) m (fun j => a (4 * j + 2)) k = F2
  generalize dft (pw Ω (4 * s)) m (fun j => a (4 * j + 3)) k = F3
  generalize pw Ω (m * s) = j at *
  rw [Nat.zero_mul, Nat.zero_mul, pw_zero]
  generalize pw Ω (1 * k * s) = x1
  generalize pw Ω (2 * k * s) = x2
  generalize pw Ω (3 * k * s) = x3
  have p2 : pw j 2 = -1 := by rw [pw_succ, pw_one]; exact hj
  have p3 : pw j 3 = -j := by rw [pw_succ, p2]; grind
  have p4 : pw j 4 = 1 := by rw [pw_succ, p3]; grind
  have p6 : pw j 6 = -1 := by rw [show 6 = 4 + 2 from rfl, pw_add, p4, p2]; grind
  have p9 : pw j 9 = j := by rw [show 9 = 4 + 4 + 1 from rfl, pw_add, pw_add, p4, pw_one]; grind
  rcases (show r = 0 ∨ r = 1 ∨ r = 2 ∨ r = 3 by omega) with rfl | rfl | rfl | rfl
  · rw [if_pos rfl]; simp only [Nat.mul_zero, pw_zero]; grind
  · rw [if_neg (by omega), if_pos rfl, Nat.mul_one, Nat.mul_one, Nat.mul_one, pw_one, p2, p3]; grind
  · rw [if_neg (by omega), if_neg (by omega), if_pos rfl, show 1 * 2 = 2 from rfl, show 2 * 2 = 4 from rfl, show 3 * 2 = 6 from rfl, p2, p4, p6]; grind
  · rw [if_neg (by omega), if_neg (by omega), if_neg (by omega), show 1 * 3 = 3 from rfl, show 2 * 3 = 6 from rfl, show 3 * 3 = 9 from rfl, p3, p6, p9]; grind
theorem dft_two {w : Fin p} (h : w = -1) (a : Nat → Fin p) : dft w 2 a 0 = a 0 + a 1 ∧ dft w 2 a 1 = a 0 - a 1 := by
  unfold dft
  rw [sm_succ, sm_succ, sm_zero, sm_succ, sm_succ, sm_zero]
  simp only [Nat.zero_mul, Nat.mul_zero, Nat.one_mul, pw_zero, pw_one, h]
  exact ⟨by grind, by grind⟩
end
end Go.Proofs.YtmalmijdjhkklaaGreat
end
