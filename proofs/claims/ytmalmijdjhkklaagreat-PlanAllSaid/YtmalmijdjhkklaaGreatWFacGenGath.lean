/- Factors by trials: what the loop keeps. -/
import Derived.Test.YtmalmijdjhkklaaGreatWAlgToRad4M
set_option linter.unusedVariables false
set_option linter.unusedSimpArgs false
set_option linter.unusedSectionVars false
section
/- Factors by trials: what the loop keeps. -/
namespace Go.Proofs.YtmalmijdjhkklaaGreat.Alg
def prodF : List (Nat × Nat) → Nat
  | [] => 1
  | x :: t => x.1 ^ x.2 * prodF t
theorem prodF_append (a b : List (Nat × Nat)) : prodF (a ++ b) = prodF a * prodF b := by
  induction a with
  | nil => simp [prodF]
  | cons x t ih => simp [prodF, ih, Nat.mul_assoc]

/-- All prime factors of n, rising, each with how often it is one. -/
structure IsFac (n : Nat) (fs : List (Nat × Nat)) : Prop where
  prod : prodF fs = n
  each : ∀ x ∈ fs, Prime x.1 ∧ 1 ≤ x.2
  rise : fs.Pairwise (fun x y => x.1 < y.1)

/-- .. while trials go on: m is left, all numbers below d have been tried. -/
structure FacI (n m d : Nat) (fs : List (Nat × Nat)) : Prop where
  prod : prodF fs * m = n
  m1 : 1 ≤ m
  d2 : 2 ≤ d
  each : ∀ x ∈ fs, Prime x.1 ∧ 1 ≤ x.2 ∧ x.1 < d
  rise : fs.Pairwise (fun x y => x.1 < y.1)
  big : ∀ q, Prime q → q ∣ m → d ≤ q

theorem FacI.start (n : Nat) (h : 1 ≤ n) : FacI n n 2 [] := ⟨by simp [prodF], h, by omega, by simp, by simp, fun q hq _ => hq.1⟩
theorem FacI.done {n d : Nat} {fs : List (Nat × Nat)} (h : FacI n 1 d fs) : IsFac n fs := ⟨by have := h.prod; omega, fun x hx => ⟨(h.each x hx).1, (h.each x hx).2.1⟩, h.rise⟩
theorem FacI.le {n m d : Nat} {fs : List (Nat × Nat)} (h : FacI n m d fs) (hn : 1 ≤ n) : m ≤ n := by
  have := h.prod
  have h0 : 0 < prodF fs := Nat.pos_of_ne_zero fun e => by rw [e] at this; omega
  have : 1 * m ≤ prodF fs * m := Nat.mul_le_mul_right m h0
  omega
/-- d divides what is left: then d is a prime. -/
theorem FacI.prime {n m d : Nat} {fs : List (Nat × Nat)} (h : FacI n m d fs) (hd : d ∣ m) : Prime d := by
  obtain ⟨q, hq, hqd⟩ := prime_factor d h.d2
  have := h.big q hq (Nat.dvd_trans hqd hd)
  have := Nat.le_of_dvd (by have := h.d2; omega) hqd
  have : q = d := by omega
  exact this ▸ hq
/-- d d is greater than what is left: then that is a prime. -/
theorem FacI.last {n m d : Nat} {fs : List (Nat × Nat)} (h : FacI n m d fs) (hm : 1 < m) (hd : m < d * d) : FacI n m m fs := by
  obtain ⟨q, hq, hqm⟩ := prime_factor m hm
  have hdq := h.big q hq hqm
  have hdm : d ≤ m := by have := Nat.le_of_dvd (by omega) hqm; omega
  refine ⟨h.prod, h.m1, by omega, fun x hx => ⟨(h.each x hx).1, (h.each x hx).2.1, by have := (h.each x hx).2.2; omega⟩, h.rise, fun r hr hrm => ?_⟩
  obtain ⟨c, hc⟩ := hrm
  by_cases hc1 : c ≤ 1
  · have : c = 1 := by
      rcases Nat.eq_zero_or_pos c with h0 | h0
      · subst h0; omega
      · omega
    subst this; omega
  · obtain ⟨s, hs, hsc⟩ := prime_factor c (by omega)
    have h1 := h.big r hr ⟨c, hc⟩
    have h2 := h.big s hs (Nat.dvd_trans hsc ⟨r, by rw [hc, Nat.mul_comm]⟩)
    have h3 := Nat.le_of_dvd (by omega) hsc
    have : d * d ≤ r * c := Nat.mul_le_mul h1 (by omega)
    omega
theorem FacI.d_le {n m d : Nat} {fs : List (Nat × Nat)} (h : FacI n m d fs) (hm : 1 < m) : d ≤ m := by
  obtain ⟨q, hq, hqm⟩ := prime_factor m hm
  have := h.big q hq hqm
  have := Nat.le_of_dvd (by omega) hqm
  omega
/-- d doesn't divide what is left. -/
theorem FacI.skip {n m d : Nat} {fs : List (Nat × Nat)} (h : FacI n m d fs) (hd : ¬ d ∣ m) : FacI n m (d + 1) fs :=
  ⟨h.prod, h.m1, by have := h.d2; omega, fun x hx => ⟨(h.each x hx).1, (h.each x hx).2.1, by have := (h.each x hx).2.2; omega⟩, h.rise, fun q hq hqm => by
    have := h.big q hq hqm
    have : q ≠ d := fun e => hd (e ▸ hqm)
    omega⟩
/-- d, e times. -/
theorem FacI.take {n m d k e : Nat} {fs : List (Nat × Nat)} (h : FacI n m d fs) (he : 1 ≤ e) (hk : k * d ^ e = m) (hd : ¬ d ∣ k) : FacI n k (d + 1) (fs ++ [(d, e)]) := by
  have hp : Prime d := h.prime ⟨k * d ^ (e - 1), by
    rw [← hk, show d ^ e = d ^ (e - 1) * d by rw [← Nat.pow_succ, Nat.succ_eq_add_one, Nat.sub_add_cancel he]]
    rw [← Nat.mul_assoc, Nat.mul_comm]⟩
  have hk0 : k ≠ 0 := fun e0 => by subst e0; have := h.m1; omega
  refine ⟨by rw [prodF_append]; simp only [prodF, Nat.mul_one]; rw [Nat.mul_assoc, Nat.mul_comm (d ^ e), hk]; exact h.prod, by omega, by have := h.d2; omega, fun x hx => ?_, ?_, fun q hq hqk => ?_⟩
  · rcases List.mem_append.1 hx with hx | hx
    · have := h.each x hx; exact ⟨this.1, this.2.1, by omega⟩
    · simp only [List.mem_singleton] at hx; subst hx; exact ⟨hp, he, by simp⟩
  · rw [List.pairwise_append]
    refine ⟨h.rise, by simp, fun a ha b hb => ?_⟩
    simp only [List.mem_singleton] at hb; subst hb
    exact (h.each a ha).2.2
  · have := h.big q hq (Nat.dvd_trans hqk ⟨d ^ e, hk.symm⟩)
    have : q ≠ d := fun e => hd (e ▸ hqk)
    omega
theorem len_le {n : Nat} {fs : List (Nat × Nat)} (h : ∀ x ∈ fs, Prime x.1 ∧ 1 ≤ x.2) (hp : prodF fs ≤ n) : 2 ^ fs.length ≤ n := by
  have : 2 ^ fs.length ≤ prodF fs := by
    clear hp
    induction fs with
    | nil => simp [prodF]
    | cons x t ih =>
      have hx := h x (by simp)
      have : 2 ^ 1 ≤ x.1 ^ x.2 := Nat.le_trans (Nat.pow_le_pow_left hx.1.1 1) (Nat.pow_le_pow_right (by have := hx.1.1; omega) hx.2)
      rw [List.length_cons, Nat.pow_succ, prodF, Nat.mul_comm]
      exact Nat.mul_le_mul (by omega) (ih fun y hy => h y (by simp [hy]))
  omega
theorem FacI.len {n m d : Nat} {fs : List (Nat × Nat)} (h : FacI n m d fs) (hn1 : 1 ≤ n) (hn : n ≤ 4294967296) : fs.length ≤ 32 := by
  have hp := h.prod
  have hm := h.m1
  have : prodF fs * 1 ≤ prodF fs * m := Nat.mul_le_mul_left _ hm
  have := len_le (n := 4294967296) (fun x hx => ⟨(h.each x hx).1, (h.each x hx).2.1⟩) (by omega)
  exact (Nat.pow_le_pow_iff_right (a := 2) (by omega)).1 (show 2 ^ fs.length ≤ 2 ^ 32 by omega)
theorem IsFac.dvd {n : Nat} {fs : List (Nat × Nat)} (h : IsFac n fs) {x : Nat × Nat} (hx : x ∈ fs) : x.1 ∣ n := by
  rw [← h.prod]
  have he := (h.each x hx).2
  clear h
  induction fs with
  | nil => cases hx
  | cons y t ih =>
    simp only [prodF]
    rcases List.mem_cons.1 hx with rfl | hx
    · refine Nat.dvd_trans ?_ (Nat.dvd_mul_right _ _)
      exact ⟨x.1 ^ (x.2 - 1), by rw [Nat.mul_comm, ← Nat.pow_succ, Nat.succ_eq_add_one, Nat.sub_add_cancel he]⟩
    · exact Nat.dvd_trans (ih hx) (Nat.dvd_mul_left _ _)
theorem IsFac.mem {n : Nat} {fs : List (Nat × Nat)} (h : IsFac n fs) {q : Nat} (hq : Prime q) (hd : q ∣ n) : ∃ e, (q, e) ∈ fs := by
  rw [← h.prod] at hd
  have he := h.each
  clear h
  induction fs with
  | nil => simp only [prodF] at hd; have := Nat.le_of_dvd (by omega) hd; have := hq.1; omega
  | cons y t ih =>
    simp only [prodF] at hd
    rcases hq.dvd_mul hd with h | h
    · have := hq.eq_of_dvd (he y (by simp)).1 (hq.dvd_pow h)
      exact ⟨y.2, by subst this; simp⟩
    · obtain ⟨e, he'⟩ := ih h (fun x hx => he x (by simp [hx]))
      exact ⟨e, by simp [he']⟩
/-- A prime has itself alone, once. -/
theorem IsFac.prime_iff {n : Nat} {fs : List (Nat × Nat)} (h : IsFac n fs) (hn : 2 ≤ n) : Prime n ↔ fs.length = 1 ∧ ∀ x ∈ fs, x.2 = 1 := by
  constructor
  · intro hp
    have hall : ∀ x ∈ fs, x.1 = n := fun x hx => (h.each x hx).1.eq_of_dvd hp (h.dvd hx)
    match fs, h, hall with
    | [], h, _ => have := h.prod; simp [prodF] at this; omega
    | [x], h, hall =>
      refine ⟨rfl, fun y hy => ?_⟩
      simp only [List.mem_singleton] at hy; subst hy
      have hp2 := h.prod
      have hx := hall y (by simp)
      have hy2 := (h.each y (by simp)).2
      simp only [prodF, Nat.mul_one] at hp2
      rw [hx] at hp2
      have h3 : n ^ y.2 ≤ n ^ 1 := by rw [Nat.pow_one, hp2]; exact Nat.le_refl _
      have := (Nat.pow_le_pow_iff_right (a := n) (by omega)).1 h3
      omega
    | x :: y :: t, h, hall =>
      have hr := (List.pairwise_cons.1 h.rise).1 y (by simp)
      have h1 := hall x (by simp)
      have h2 := hall y (by simp)
      omega
  · rintro ⟨hl, he⟩
    match fs, h, hl, he with
    | [x], h, _, he =>
      have hp := h.prod
      have h1 := he x (by simp)
      simp only [prodF, h1, Nat.pow_one, Nat.mul_one] at hp
      exact hp ▸ (h.each x (by simp)).1
end Go.Proofs.YtmalmijdjhkklaaGreat.Alg
end

section
/- The least number whose powers are all, modulo a prime. -/
namespace Go.Proofs.YtmalmijdjhkklaaGreat.Alg

/-- No (p - 1) / q-th power of g is 1. -/
def GenOk (p g : Nat) : Prop := ∀ q, Prime q → q ∣ p - 1 → ((g : Int) ^ ((p - 1) / q)) % (p : Int) ≠ 1
def IsGen (p g : Nat) : Prop := 2 ≤ g ∧ GenOk p g ∧ ∀ h, 2 ≤ h → h < g → ¬ GenOk p h
theorem IsGen.unique {p g h : Nat} (a : IsGen p g) (b : IsGen p h) : g = h := by
  rcases Nat.lt_trichotomy g h with h1 | h1 | h1
  · exact absurd a.2.1 (b.2.2 g a.1 h1)
  · exact h1
  · exact absurd b.2.1 (a.2.2 h b.1 h1)

theorem zt_pow_one {p : Nat} [NeZero p] (hp : 2 ≤ p) (g k : Nat) : ((g : Int) ^ k) % (p : Int) = 1 ↔ pw (zt p g) k = 1 := by
  rw [← zt_pow, ← zt_one, zt_eq, Int.emod_eq_of_lt (show (0 : Int) ≤ 1 by omega) (by omega)]

theorem GenOk.ord {p g : Nat} [NeZero p] (hp : Prime p) (h : GenOk p g) (hg : zt p g ≠ 0) : Ord (zt p g) (p - 1) := by
  have h2 := hp.1
  refine lucas (by omega) (fermat hp _ hg) fun q hq hqd hone => ?_
  exact h q hq hqd ((zt_pow_one h2 g _).2 hone)

theorem GenOk.of_ord {p g : Nat} [NeZero p] (hp : 2 ≤ p) (h : Ord (zt p g) (p - 1)) : GenOk p g := by
  intro q hq hqd hone
  have h1 := (zt_pow_one hp g _).1 hone
  have hd := h.dvd.1 h1
  have hq2 := hq.1
  have hlt : (p - 1) / q < p - 1 := Nat.div_lt_self (by have := h.1; omega) hq2
  have hpos : 0 < (p - 1) / q := Nat.div_pos (Nat.le_of_dvd h.1 hqd) (by omega)
  have := Nat.le_of_dvd hpos hd
  omega

/-- There is one below p. -/
theorem gen_bound {p : Nat} (hp : Prime p) (h3 : 3 ≤ p) : ∃ r, 2 ≤ r ∧ r < p ∧ GenOk p r := by
  haveI : NeZero p := ⟨by omega⟩
  obtain ⟨g, hg⟩ := primitive hp
  have hz : zt p ((g.val : Nat) : Int) = g := zt_of_val g
  refine ⟨g.val, ?_, g.isLt, GenOk.of_ord hp.1 (by rw [hz]; exact hg)⟩
  rcases Nat.lt_or_ge g.val 2 with h | h
  · exfalso
    rcases Nat.lt_or_ge g.val 1 with h1 | h1
    · have hg0 : g = 0 := Fin.ext (by show g.val = 0 % p; rw [Nat.zero_mod]; omega)
      have h2 := hg.2.1
      rw [hg0, show p - 1 = (p - 2) + 1 by omega, pw_succ] at h2
      exact one_ne_zero hp.1 (by rw [← h2]; grind)
    · have hg1 : g = 1 := Fin.ext (by show g.val = 1 % p; rw [Nat.mod_eq_of_lt (by omega)]; omega)
      exact hg.2.2 1 (by omega) (by omega) (by rw [hg1, one_pw])
  · exact h

theorem IsGen.lt {p g : Nat} (hp : Prime p) (h3 : 3 ≤ p) (h : IsGen p g) : g < p := by
  obtain ⟨r, hr2, hrp, hr⟩ := gen_bound hp h3
  rcases Nat.lt_or_ge r g with h1 | h1
  · exact absurd hr (h.2.2 r hr2 h1)
  · omega

theorem IsGen.ord {p g : Nat} [NeZero p] (hp : Prime p) (h3 : 3 ≤ p) (h : IsGen p g) : Ord (zt p g) (p - 1) := by
  refine h.2.1.ord hp fun h0 => ?_
  have h1 := zt_val (p := p) (g : Int)
  rw [h0, Int.emod_eq_of_lt (by omega) (by have := h.lt hp h3; omega)] at h1
  have := h.1
  simp at h1
  omega

theorem test_iff {p g : Nat} {fs : List (Nat × Nat)} (hf : IsFac (p - 1) fs) : fs.any (fun x => (g : Int) ^ (((p : Int) - 1) / x.1).toNat % (p : Int) == 1) = false ↔ (1 ≤ p → GenOk p g) := by
  have e : ∀ x : Nat, 1 ≤ p → (((p : Int) - 1) / (x : Int)).toNat = (p - 1) / x := fun x h1 => by
    have : ((p : Int) - 1) / (x : Int) = (((p - 1) / x : Nat) : Int) := by
      rw [Int.natCast_ediv]; congr 1; omega
    rw [this]; rfl
  rw [Bool.eq_false_iff]
  constructor
  · intro h h1 q hq hqd hone
    obtain ⟨k, hk⟩ := hf.mem hq hqd
    exact h (List.any_eq_true.2 ⟨(q, k), hk, by simp only [e _ h1]; simpa using hone⟩)
  · intro h hany
    obtain ⟨x, hx, ht⟩ := List.any_eq_true.1 hany
    have h1 : 1 ≤ p := by
      rcases Nat.eq_zero_or_pos p with h0 | h0
      · subst h0
        have := hf.prod
        have hd := hf.dvd hx
        have hm := (hf.each x hx).1.1
        exfalso
        have hp0 : ∀ l : List (Nat × Nat), (∀ y ∈ l, Prime y.1 ∧ 1 ≤ y.2) → 1 ≤ prodF l := by
          intro l
          induction l with
          | nil => intro _; simp [prodF]
          | cons y t ih =>
            intro hl
            have := (hl y (by simp)).1.1
            exact Nat.mul_le_mul (Nat.pow_pos (by omega)) (ih fun z hz => hl z (by simp [hz]))
        have := hp0 fs hf.each
        omega
      · exact h0
    exact h h1 x.1 (hf.each x hx).1 (hf.dvd hx) (by simp only [e _ h1] at ht; simpa using ht)
end Go.Proofs.YtmalmijdjhkklaaGreat.Alg
end

section
/- How many primes gather visits: at most twelve for a prime up to 2^16. -/
namespace Go.Proofs.YtmalmijdjhkklaaGreat.Alg

/-- A sum over the primes that divide n, by trials from d on (99: out of fuel). -/
def dsum (t : Nat → Nat) (f : Nat) : Nat → Nat → Nat :=
  Nat.rec (motive := fun _ => Nat → Nat → Nat) (fun _ _ => 99) (fun _ ih n d => bif Nat.ble (d * d) n then (bif Nat.beq (n % d) 0 then (bif Nat.beq (n / d % d) 0 then ih (n / d) d else t d + ih (n / d) (d + 1 + d % 2)) else ih n (d + 1 + d % 2)) else (bif Nat.ble n 1 then 0 else t n)) f
/-- How many primes gather visits, at most. -/
def cnt (f : Nat) : Nat → Nat :=
  Nat.rec (motive := fun _ => Nat → Nat) (fun _ => 99) (fun _ ih p => bif Nat.beq p 2 then 0 else 1 + dsum ih 160 (p - 1) 2) f
theorem dsum_succ (t : Nat → Nat) (f n d : Nat) : dsum t (f + 1) n d = bif Nat.ble (d * d) n then (bif Nat.beq (n % d) 0 then (bif Nat.beq (n / d % d) 0 then dsum t f (n / d) d else t d + dsum t f (n / d) (d + 1 + d % 2)) else dsum t f n (d + 1 + d % 2)) else (bif Nat.ble n 1 then 0 else t n) := rfl
theorem cnt_succ (f p : Nat) : cnt (f + 1) p = bif Nat.beq p 2 then 0 else 1 + dsum (cnt f) 160 (p - 1) 2 := rfl

/-- The next trial passes over no prime. -/
theorem next_prime {d q : Nat} (hd : d = 2 ∨ (3 ≤ d ∧ d % 2 = 1)) (hq : Prime q) (h : d < q) : d + 1 + d % 2 ≤ q := by
  rcases hd with rfl | ⟨h3, ho⟩
  · omega
  · rcases Nat.lt_or_ge q (d + 1 + d % 2) with h' | h'
    · have : q = d + 1 := by omega
      have h2 : 2 ∣ q := by omega
      rcases hq.2 2 h2 with h1 | h1 <;> omega
    · exact h'
theorem dsum_eq (t : Nat → Nat) (f : Nat) : ∀ n d : Nat, 1 ≤ n → (d = 2 ∨ (3 ≤ d ∧ d % 2 = 1)) → (∀ q, Prime q → q ∣ n → d ≤ q) → dsum t f n d < 99 →
    ∃ L : List Nat, L.Nodup ∧ (∀ q, q ∈ L ↔ Prime q ∧ q ∣ n) ∧ dsum t f n d = (L.map t).sum := by
  induction f with
  | zero => intro n d _ _ _ h; have h' : 99 < 99 := h; omega
  | succ f ih =>
    intro n d hn hd hq h
    have hd2 : 2 ≤ d := by omega
    rw [dsum_succ] at h ⊢
    cases hb : Nat.ble (d * d) n with
    | false =>
      have hlt : n < d * d := by
        rcases Nat.lt_or_ge n (d * d) with h' | h'
        · exact h'
        · rw [Nat.ble_eq_true_of_le h'] at hb; cases hb
      rw [hb] at h
      simp only [cond_false] at h ⊢
      cases h1 : Nat.ble n 1 with
      | true =>
        have : n = 1 := by have := Nat.le_of_ble_eq_true h1; omega
        subst this
        refine ⟨[], List.nodup_nil, fun q => ⟨fun h => absurd h (by simp), fun h => ?_⟩, by simp⟩
        have := Nat.dvd_one.1 h.2
        have := h.1.1
        omega
      | false =>
        have hn2 : 2 ≤ n := by
          rcases Nat.lt_or_ge 1 n with h' | h'
          · exact h'
          · rw [Nat.ble_eq_true_of_le h'] at h1; cases h1
        have hp : Prime n := by
          refine ⟨hn2, fun e he => ?_⟩
          rcases Nat.eq_or_lt_of_le (Nat.pos_of_dvd_of_pos he (by omega)) with e1 | e1
          · exact .inl e1.symm
          · right
            obtain ⟨k, hk⟩ := he
            rcases Nat.lt_or_ge 1 k with hk1 | hk1
            · obtain ⟨q1, hp1, hd1⟩ := prime_factor e (by omega)
              obtain ⟨q2, hp2, hd2'⟩ := prime_factor k (by omega)
              have a1 := hq q1 hp1 (hk ▸ Nat.dvd_trans hd1 (Nat.dvd_mul_right e k))
              have a2 := hq q2 hp2 (hk ▸ Nat.dvd_trans hd2' (Nat.dvd_mul_left k e))
              have b1 := Nat.le_of_dvd (by omega) hd1
              have b2 := Nat.le_of_dvd (by omega) hd2'
              have : d * d ≤ e * k := Nat.mul_le_mul (by omega) (by omega)
              omega
            · have : k = 1 := by
                rcases Nat.eq_zero_or_pos k with h0 | h0
                · subst h0; omega
                · omega
              subst this; omega
        refine ⟨[n], by simp, fun q => ⟨fun h => ?_, fun h => ?_⟩, by simp⟩
        · rw [List.mem_singleton.1 h]; exact ⟨hp, Nat.dvd_refl n⟩
        · exact List.mem_singleton.2 (h.1.eq_of_dvd hp h.2)
    | true =>
      have hle : d * d ≤ n := Nat.le_of_ble_eq_true hb
      rw [hb] at h
      simp only [cond_true] at h ⊢
      have hd' : d + 1 + d % 2 = 2 ∨ (3 ≤ d + 1 + d % 2 ∧ (d + 1 + d % 2) % 2 = 1) := by omega
      cases h1 : Nat.beq (n % d) 0 with
      | false =>
        have hnd : ¬ d ∣ n := fun hx => by rw [Nat.mod_eq_zero_of_dvd hx] at h1; cases h1
        rw [h1] at h
        simp only [cond_false] at h ⊢
        exact ih n _ hn hd' (fun q hp hdv => next_prime hd hp (by
          have := hq q hp hdv
          rcases Nat.eq_or_lt_of_le this with e | e
          · subst e; exact absurd hdv hnd
          · exact e)) h
      | true =>
        have hdv : d ∣ n := Nat.dvd_of_mod_eq_zero (Nat.eq_of_beq_eq_true h1)
        have hdp : Prime d := by
          obtain ⟨q, hp, hqd⟩ := prime_factor d hd2
          have := hq q hp (Nat.dvd_trans hqd hdv)
          have := Nat.le_of_dvd (by omega) hqd
          have : q = d := by omega
          exact this ▸ hp
        have hnd : d * (n / d) = n := Nat.mul_div_cancel' hdv
        have hn1 : 1 ≤ n / d := Nat.div_pos (by have := Nat.le_of_dvd (by omega) hdv; omega) (by omega)
        have hdiv : n / d ∣ n := ⟨d, by rw [Nat.mul_comm]; exact hnd.symm⟩
        have hsp : ∀ q, Prime q → q ∣ n → q = d ∨ q ∣ n / d := fun q hp hx => by
          rcases hp.dvd_mul (show q ∣ d * (n / d) by rw [hnd]; exact hx) with h | h
          · exact .inl (hp.eq_of_dvd hdp h)
          · exact .inr h
        rw [h1] at h
        simp only [cond_true] at h ⊢
        cases h2 : Nat.beq (n / d % d) 0 with
        | true =>
          have hdd : d ∣ n / d := Nat.dvd_of_mod_eq_zero (Nat.eq_of_beq_eq_true h2)
          rw [h2] at h
          simp only [cond_true] at h ⊢
          obtain ⟨L, a, b, c⟩ := ih (n / d) d hn1 hd (fun q hp hx => hq q hp (Nat.dvd_trans hx hdiv)) h
          refine ⟨L, a, fun q => (b q).trans ⟨fun hx => ⟨hx.1, Nat.dvd_trans hx.2 hdiv⟩, fun hx => ⟨hx.1, ?_⟩⟩, c⟩
          rcases hsp q hx.1 hx.2 with e | e
          · rw [e]; exact hdd
          · exact e
        | false =>
          have hdd : ¬ d ∣ n / d := fun hx => by rw [Nat.mod_eq_zero_of_dvd hx] at h2; cases h2
          rw [h2] at h
          simp only [cond_false] at h ⊢
          obtain ⟨L, a, b, c⟩ := ih (n / d) _ hn1 hd' (fun q hp hx => next_prime hd hp (by
            have := hq q hp (Nat.dvd_trans hx hdiv)
            rcases Nat.eq_or_lt_of_le this with e | e
            · subst e; exact absurd hx hdd
            · exact e)) (by omega)
          refine ⟨d :: L, List.nodup_cons.2 ⟨fun hx => hdd ((b d).1 hx).2, a⟩, fun q => ⟨fun hx => ?_, fun hx => ?_⟩, by rw [List.map_cons, List.sum_cons, c]⟩
          · rcases List.mem_cons.1 hx with e | e
            · rw [e]; exact ⟨hdp, hdv⟩
            · exact ⟨((b q).1 e).1, Nat.dvd_trans ((b q).1 e).2 hdiv⟩
          · rcases hsp q hx.1 hx.2 with e | e
            · exact List.mem_cons.2 (.inl e)
            · exact List.mem_cons.2 (.inr ((b q).2 ⟨hx.1, e⟩))

theorem perm_of_mem {α : Type} [DecidableEq α] {a b : List α} (ha : a.Nodup) (hb : b.Nodup) (h : ∀ x, x ∈ a ↔ x ∈ b) : a.Perm b := by
  rw [List.perm_iff_count]
  intro x
  rw [ha.count, hb.count]
  by_cases hx : x ∈ a
  · rw [if_pos hx, if_pos ((h x).1 hx)]
  · rw [if_neg hx, if_neg (fun k => hx ((h x).2 k))]
theorem perm_sum {a b : List Nat} (h : a.Perm b) : a.sum = b.sum := by
  induction h with
  | nil => rfl
  | cons x _ ih => simp only [List.sum_cons, ih]
  | swap x y l => simp only [List.sum_cons]; omega
  | trans _ _ h1 h2 => rw [h1, h2]
/-- A prime's count is one more than those of its factors' sum. -/
theorem cnt_fac {f p : Nat} {fs : List (Nat × Nat)} (hp : 3 ≤ p) (hf : IsFac (p - 1) fs) (h : cnt (f + 1) p < 99) : cnt (f + 1) p = 1 + ((fs.map (·.1)).map (cnt f)).sum := by
  have hp2 : Nat.beq p 2 = false := by
    cases hb : Nat.beq p 2 with
    | false => rfl
    | true => have := Nat.eq_of_beq_eq_true hb; omega
  rw [cnt_succ, hp2, cond_false] at h ⊢
  obtain ⟨L, a, b, c⟩ := dsum_eq (cnt f) 160 (p - 1) 2 (by omega) (.inl rfl) (fun q hq _ => hq.1) (by omega)
  rw [c]
  have hnd : (fs.map (·.1)).Nodup := by
    exact List.Pairwise.map (R := fun x y : Nat × Nat => x.1 < y.1) _ (fun x y hx => by omega) hf.rise
  have := perm_of_mem a hnd (fun q => by
    rw [b q]
    constructor
    · rintro ⟨hq, hd⟩
      obtain ⟨e, he⟩ := hf.mem hq hd
      exact List.mem_map.2 ⟨(q, e), he, rfl⟩
    · intro hx
      obtain ⟨y, hy, rfl⟩ := List.mem_map.1 hx
      exact ⟨(hf.each y hy).1, hf.dvd hy⟩)
  rw [perm_sum (this.map (cnt f))]

def allC (k : Nat) : Nat → Bool :=
  Nat.rec (motive := fun _ => Nat → Bool) (fun _ => true) (fun _ ih p => bif Nat.ble (cnt 16 p) 12 then ih (p + 2) else false) k
theorem allC_ok (k : Nat) : ∀ p, allC k p = true → ∀ q, p ≤ q → q < p + 2 * k → q % 2 = p % 2 → cnt 16 q ≤ 12 := by
  induction k with
  | zero => intro p _ q h1 h2; omega
  | succ k ih =>
    intro p h q h1 h2 h3
    have h' : (bif Nat.ble (cnt 16 p) 12 then allC k (p + 2) else false) = true := h
    cases hb : Nat.ble (cnt 16 p) 12 with
    | false => rw [hb] at h'; cases h'
    | true =>
      rw [hb, cond_true] at h'
      by_cases e : q = p
      · rw [e]; exact Nat.le_of_ble_eq_true hb
      · exact ih (p + 2) h' q (by omega) (by omega) (by omega)
theorem allC0 : allC 1024 3 = true := by decide +kernel
theorem allC1 : allC 1024 2051 = true := by decide +kernel
theorem allC2 : allC 1024 4099 = true := by decide +kernel
theorem allC3 : allC 1024 6147 = true := by decide +kernel
theorem allC4 : allC 1024 8195 = true := by decide +kernel
theorem allC5 : allC 1024 10243 = true := by decide +kernel
theorem allC6 : allC 1024 12291 = true := by decide +kernel
theorem allC7 : allC 1024 14339 = true := by decide +kernel
theorem allC8 : allC 1024 16387 = true := by decide +kernel
theorem allC9 : allC 1024 18435 = true := by decide +kernel
theorem allC10 : allC 1024 20483 = true := by decide +kernel
theorem allC11 : allC 1024 22531 = true := by decide +kernel
theorem allC12 : allC 1024 24579 = true := by decide +kernel
theorem allC13 : allC 1024 26627 = true := by decide +kernel
theorem allC14 : allC 1024 28675 = true := by decide +kernel
theorem allC15 : allC 1024 30723 = true := by decide +kernel
theorem allC16 : allC 1024 32771 = true := by decide +kernel
theorem allC17 : allC 1024 34819 = true := by decide +kernel
theorem allC18 : allC 1024 36867 = true := by decide +kernel
theorem allC19 : allC 1024 38915 = true := by decide +kernel
theorem allC20 : allC 1024 40963 = true := by decide +kernel
theorem allC21 : allC 1024 43011 = true := by decide +kernel
theorem allC22 : allC 1024 45059 = true := by decide +kernel
theorem allC23 : allC 1024 47107 = true := by decide +kernel
theorem allC24 : allC 1024 49155 = true := by decide +kernel
theorem allC25 : allC 1024 51203 = true := by decide +kernel
theorem allC26 : allC 1024 53251 = true := by decide +kernel
theorem allC27 : allC 1024 55299 = true := by decide +kernel
theorem allC28 : allC 1024 57347 = true := by decide +kernel
theorem allC29 : allC 1024 59395 = true := by decide +kernel
theorem allC30 : allC 1024 61443 = true := by decide +kernel
theorem allC31 : allC 1024 63491 = true := by decide +kernel
theorem cnt_le {p : Nat} (h3 : 3 ≤ p) (hp : p ≤ 65536) (ho : p % 2 = 1) : cnt 16 p ≤ 12 := by
  rcases (show (3 ≤ p ∧ p < 2051) ∨ (2051 ≤ p ∧ p < 4099) ∨ (4099 ≤ p ∧ p < 6147) ∨ (6147 ≤ p ∧ p < 8195) ∨ (8195 ≤ p ∧ p < 10243) ∨ (10243 ≤ p ∧ p < 12291) ∨ (12291 ≤ p ∧ p < 14339) ∨ (14339 ≤ p ∧ p < 16387) ∨ (16387 ≤ p ∧ p < 18435) ∨ (18435 ≤ p ∧ p < 20483) ∨ (20483 ≤ p ∧ p < 22531) ∨ (22531 ≤ p ∧ p < 24579) ∨ (24579 ≤ p ∧ p < 26627) ∨ (26627 ≤ p ∧ p < 28675) ∨ (28675 ≤ p ∧ p < 30723) ∨ (30723 ≤ p ∧ p < 32771) ∨ (32771 ≤ p ∧ p < 34819) ∨ (34819 ≤ p ∧ p < 36867) ∨ (36867 ≤ p ∧ p < 38915) ∨ (38915 ≤ p ∧ p < 40963) ∨ (40963 ≤ p ∧ p < 43011) ∨ (43011 ≤ p ∧ p < 45059) ∨ (45059 ≤ p ∧ p < 47107) ∨ (47107 ≤ p ∧ p < 49155) ∨ (49155 ≤ p ∧ p < 51203) ∨ (51203 ≤ p ∧ p < 53251) ∨ (53251 ≤ p ∧ p < 55299) ∨ (55299 ≤ p ∧ p < 57347) ∨ (57347 ≤ p ∧ p < 59395) ∨ (59395 ≤ p ∧ p < 61443) ∨ (61443 ≤ p ∧ p < 63491) ∨ (63491 ≤ p ∧ p < 65539) by omega) with h | h | h | h | h | h | h | h | h | h | h | h | h | h | h | h | h | h | h | h | h | h | h | h | h | h | h | h | h | h | h | h
  · exact allC_ok 1024 3 allC0 p h.1 h.2 (by omega)
  · exact allC_ok 1024 2051 allC1 p h.1 h.2 (by omega)
  · exact allC_ok 1024 4099 allC2 p h.1 h.2 (by omega)
  · exact allC_ok 1024 6147 allC3 p h.1 h.2 (by omega)
  · exact allC_ok 1024 8195 allC4 p h.1 h.2 (by omega)
  · exact allC_ok 1024 10243 allC5 p h.1 h.2 (by omega)
  · exact allC_ok 1024 12291 allC6 p h.1 h.2 (by omega)
  · exact allC_ok 1024 14339 allC7 p h.1 h.2 (by omega)
  · exact allC_ok 1024 16387 allC8 p h.1 h.2 (by omega)
  · exact allC_ok 1024 18435 allC9 p h.1 h.2 (by omega)
  · exact allC_ok 1024 20483 allC10 p h.1 h.2 (by omega)
  · exact allC_ok 1024 22531 allC11 p h.1 h.2 (by omega)
  · exact allC_ok 1024 24579 allC12 p h.1 h.2 (by omega)
  · exact allC_ok 1024 26627 allC13 p h.1 h.2 (by omega)
  · exact allC_ok 1024 28675 allC14 p h.1 h.2 (by omega)
  · exact allC_ok 1024 30723 allC15 p h.1 h.2 (by omega)
  · exact allC_ok 1024 32771 allC16 p h.1 h.2 (by omega)
  · exact allC_ok 1024 34819 allC17 p h.1 h.2 (by omega)
  · exact allC_ok 1024 36867 allC18 p h.1 h.2 (by omega)
  · exact allC_ok 1024 38915 allC19 p h.1 h.2 (by omega)
  · exact allC_ok 1024 40963 allC20 p h.1 h.2 (by omega)
  · exact allC_ok 1024 43011 allC21 p h.1 h.2 (by omega)
  · exact allC_ok 1024 45059 allC22 p h.1 h.2 (by omega)
  · exact allC_ok 1024 47107 allC23 p h.1 h.2 (by omega)
  · exact allC_ok 1024 49155 allC24 p h.1 h.2 (by omega)
  · exact allC_ok 1024 51203 allC25 p h.1 h.2 (by omega)
  · exact allC_ok 1024 53251 allC26 p h.1 h.2 (by omega)
  · exact allC_ok 1024 55299 allC27 p h.1 h.2 (by omega)
  · exact allC_ok 1024 57347 allC28 p h.1 h.2 (by omega)
  · exact allC_ok 1024 59395 allC29 p h.1 h.2 (by omega)
  · exact allC_ok 1024 61443 allC30 p h.1 h.2 (by omega)
  · exact allC_ok 1024 63491 allC31 p h.1 h.2 (by omega)
end Go.Proofs.YtmalmijdjhkklaaGreat.Alg
end
