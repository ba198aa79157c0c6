/- Factors by trials: what the loop keeps. -/
import Derived.Test.YtgdadkkiefkimaaGreatNum
set_option linter.unusedVariables false
set_option linter.unusedSimpArgs false
set_option linter.unusedSectionVars false
section
/- Factors by trials: what the loop keeps. -/
namespace Go.Proofs.YtgdadkkiefkimaaGreat.Alg
def prodF : List (Nat × Nat) → Nat
  | [] => 1
  | x :: t => x.1 ^ x.2 * prodF t
theorem prodF_append (a b : List (Nat × Nat)) : prodF (a ++ b) = prodF a * prodF b := by
  induction a with
  | nil => simp [prodF]
  | cons x t ih => simp [prodF, ih, Nat.mul_assoc]

/-- All prime factors of n, rising, each with how often it is one. -/
structure IsFac (n : Nat) (fs : List (Nat × Nat)) : Prop where
  prod : prodF fs = n
  each : ∀ x ∈ fs, Prime x.1 ∧ 1 ≤ x.2
  rise : fs.Pairwise (fun x y => x.1 < y.1)

/-- .. while trials go on: m is left, all numbers below d have been tried. -/
structure FacI (n m d : Nat) (fs : List (Nat × Nat)) : Prop where
  prod : prodF fs * m = n
  m1 : 1 ≤ m
  d2 : 2 ≤ d
  each : ∀ x ∈ fs, Prime x.1 ∧ 1 ≤ x.2 ∧ x.1 < d
  rise : fs.Pairwise (fun x y => x.1 < y.1)
  big : ∀ q, Prime q → q ∣ m → d ≤ q

theorem FacI.start (n : Nat) (h : 1 ≤ n) : FacI n n 2 [] := ⟨by simp [prodF], h, by omega, by simp, by simp, fun q hq _ => hq.1⟩
theorem FacI.done {n d : Nat} {fs : List (Nat × Nat)} (h : FacI n 1 d fs) : IsFac n fs := ⟨by have := h.prod; omega, fun x hx => ⟨(h.each x hx).1, (h.each x hx).2.1⟩, h.rise⟩
theorem FacI.le {n m d : Nat} {fs : List (Nat × Nat)} (h : FacI n m d fs) (hn : 1 ≤ n) : m ≤ n := by
  have := h.prod
  have h0 : 0 < prodF fs := Nat.pos_of_ne_zero fun e => by rw [e] at this; omega
  have : 1 * m ≤ prodF fs * m := Nat.mul_le_mul_right m h0
  omega
/-- d divides what is left: then d is a prime. -/
theorem FacI.prime {n m d : Nat} {fs : List (Nat × Nat)} (h : FacI n m d fs) (hd : d ∣ m) : Prime d := by
  obtain ⟨q, hq, hqd⟩ := prime_factor d h.d2
  have := h.big q hq (Nat.dvd_trans hqd hd)
  have := Nat.le_of_dvd (by have := h.d2; omega) hqd
  have : q = d := by omega
  exact this ▸ hq
/-- d d is greater than what is left: then that is a prime. -/
theorem FacI.last {n m d : Nat} {fs : List (Nat × Nat)} (h : FacI n m d fs) (hm : 1 < m) (hd : m < d * d) : FacI n m m fs := by
  obtain ⟨q, hq, hqm⟩ := prime_factor m hm
  have hdq := h.big q hq hqm
  have hdm : d ≤ m := by have := Nat.le_of_dvd (by omega) hqm; omega
  refine ⟨h.prod, h.m1, by omega, fun x hx => ⟨(h.each x hx).1, (h.each x hx).2.1, by have := (h.each x hx).2.2; omega⟩, h.rise, fun r hr hrm => ?_⟩
  obtain ⟨c, hc⟩ := hrm
  by_cases hc1 : c ≤ 1
  · have : c = 1 := by
      rcases Nat.eq_zero_or_pos c with h0 | h0
      · subst h0; omega
      · omega
    subst this; omega
  · obtain ⟨s, hs, hsc⟩ := prime_factor c (by omega)
    have h1 := h.big r hr ⟨c, hc⟩
    have h2 := h.big s hs (Nat.dvd_trans hsc ⟨r, by rw [hc, Nat.mul_comm]⟩)
    have h3 := Nat.le_of_dvd (by omega) hsc
    have : d * d ≤ r * c := Nat.mul_le_mul h1 (by omega)
    omega
theorem FacI.d_le {n m d : Nat} {fs : List (Nat × Nat)} (h : FacI n m d fs) (hm : 1 < m) : d ≤ m := by
  obtain ⟨q, hq, hqm⟩ := prime_factor m hm
  have := h.big q hq hqm
  have := Nat.le_of_dvd (by omega) hqm
  omega
/-- d doesn't divide what is left. -/
theorem FacI.skip {n m d : Nat} {fs : List (Nat × Nat)} (h : FacI n m d fs) (hd : ¬ d ∣ m) : FacI n m (d + 1) fs :=
  ⟨h.prod, h.m1, by have := h.d2; omega, fun x hx => ⟨(h.each x hx).1, (h.each x hx).2.1, by have := (h.each x hx).2.2; omega⟩, h.rise, fun q hq hqm => by
    have := h.big q hq hqm
    have : q ≠ d := fun e => hd (e ▸ hqm)
    omega⟩
/-- d, e times. -/
theorem FacI.take {n m d k e : Nat} {fs : List (Nat × Nat)} (h : FacI n m d fs) (he : 1 ≤ e) (hk : k * d ^ e = m) (hd : ¬ d ∣ k) : FacI n k (d + 1) (fs ++ [(d, e)]) := by
  have hp : Prime d := h.prime ⟨k * d ^ (e - 1), by
    rw [← hk, show d ^ e = d ^ (e - 1) * d by rw [← Nat.pow_succ, Nat.succ_eq_add_one, Nat.sub_add_cancel he]]
    rw [← Nat.mul_assoc, Nat.mul_comm]⟩
  have hk0 : k ≠ 0 := fun e0 => by subst e0; have := h.m1; omega
  refine ⟨by rw [prodF_append]; simp only [prodF, Nat.mul_one]; rw [Nat.mul_assoc, Nat.mul_comm (d ^ e), hk]; exact h.prod, by omega, by have := h.d2; omega, fun x hx => ?_, ?_, fun q hq hqk => ?_⟩
  · rcases List.mem_append.1 hx with hx | hx
    · have := h.each x hx; exact ⟨this.1, this.2.1, by omega⟩
    · simp only [List.mem_singleton] at hx; subst hx; exact ⟨hp, he, by simp⟩
  · rw [List.pairwise_append]
    refine ⟨h.rise, by simp, fun a ha b hb => ?_⟩
    simp only [List.mem_singleton] at hb; subst hb
    exact (h.each a ha).2.2
  · have := h.big q hq (Nat.dvd_trans hqk ⟨d ^ e, hk.symm⟩)
    have : q ≠ d := fun e => hd (e ▸ hqk)
    omega
theorem len_le {n : Nat} {fs : List (Nat × Nat)} (h : ∀ x ∈ fs, Prime x.1 ∧ 1 ≤ x.2) (hp : prodF fs ≤ n) : 2 ^ fs.length ≤ n := by
  have : 2 ^ fs.length ≤ prodF fs := by
    clear hp
    induction fs with
    | nil => simp [prodF]
    | cons x t ih =>
      have hx := h x (by simp)
      have : 2 ^ 1 ≤ x.1 ^ x.2 := Nat.le_trans (Nat.pow_le_pow_left hx.1.1 1) (Nat.pow_le_pow_right (by have := hx.1.1; omega) hx.2)
      rw [List.length_cons, Nat.pow_succ, prodF, Nat.mul_comm]
      exact Nat.mul_le_mul (by omega) (ih fun y hy => h y (by simp [hy]))
  omega
theorem FacI.len {n m d : Nat} {fs : List (Nat × Nat)} (h : FacI n m d fs) (hn1 : 1 ≤ n) (hn : n ≤ 4294967296) : fs.length ≤ 32 := by
  have hp := h.prod
  have hm := h.m1
  have : prodF fs * 1 ≤ prodF fs * m := Nat.mul_le_mul_left _ hm
  have := len_le (n := 4294967296) (fun x hx => ⟨(h.each x hx).1, (h.each x hx).2.1⟩) (by omega)
  exact (Nat.pow_le_pow_iff_right (a := 2) (by omega)).1 (show 2 ^ fs.length ≤ 2 ^ 32 by omega)
theorem IsFac.dvd {n : Nat} {fs : List (Nat × Nat)} (h : IsFac n fs) {x : Nat × Nat} (hx : x ∈ fs) : x.1 ∣ n := by
  rw [← h.prod]
  have he := (h.each x hx).2
  clear h
  induction fs with
  | nil => cases hx
  | cons y t ih =>
    simp only [prodF]
    rcases List.mem_cons.1 hx with rfl | hx
    · refine Nat.dvd_trans ?_ (Nat.dvd_mul_right _ _)
      exact ⟨x.1 ^ (x.2 - 1), by rw [Nat.mul_comm, ← Nat.pow_succ, Nat.succ_eq_add_one, Nat.sub_add_cancel he]⟩
    · exact Nat.dvd_trans (ih hx) (Nat.dvd_mul_left _ _)
theorem IsFac.mem {n : Nat} {fs : List (Nat × Nat)} (h : IsFac n fs) {q : Nat} (hq : Prime q) (hd : q ∣ n) : ∃ e, (q, e) ∈ fs := by
  rw [← h.prod] at hd
  have he := h.each
  clear h
  induction fs with
  | nil => simp only [prodF] at hd; have := Nat.le_of_dvd (by omega) hd; have := hq.1; omega
  | cons y t ih =>
    simp only [prodF] at hd
    rcases hq.dvd_mul hd with h | h
    · have := hq.eq_of_dvd (he y (by simp)).1 (hq.dvd_pow h)
      exact ⟨y.2, by subst this; simp⟩
    · obtain ⟨e, he'⟩ := ih h (fun x hx => he x (by simp [hx]))
      exact ⟨e, by simp [he']⟩
/-- A prime has itself alone, once. -/
theorem IsFac.prime_iff {n : Nat} {fs : List (Nat × Nat)} (h : IsFac n fs) (hn : 2 ≤ n) : Prime n ↔ fs.length = 1 ∧ ∀ x ∈ fs, x.2 = 1 := by
  constructor
  · intro hp
    have hall : ∀ x ∈ fs, x.1 = n := fun x hx => (h.each x hx).1.eq_of_dvd hp (h.dvd hx)
    match fs, h, hall with
    | [], h, _ => have := h.prod; simp [prodF] at this; omega
    | [x], h, hall =>
      refine ⟨rfl, fun y hy => ?_⟩
      simp only [List.mem_singleton] at hy; subst hy
      have hp2 := h.prod
      have hx := hall y (by simp)
      have hy2 := (h.each y (by simp)).2
      simp only [prodF, Nat.mul_one] at hp2
      rw [hx] at hp2
      have h3 : n ^ y.2 ≤ n ^ 1 := by rw [Nat.pow_one, hp2]; exact Nat.le_refl _
      have := (Nat.pow_le_pow_iff_right (a := n) (by omega)).1 h3
      omega
    | x :: y :: t, h, hall =>
      have hr := (List.pairwise_cons.1 h.rise).1 y (by simp)
      have h1 := hall x (by simp)
      have h2 := hall y (by simp)
      omega
  · rintro ⟨hl, he⟩
    match fs, h, hl, he with
    | [x], h, _, he =>
      have hp := h.prod
      have h1 := he x (by simp)
      simp only [prodF, h1, Nat.pow_one, Nat.mul_one] at hp
      exact hp ▸ (h.each x (by simp)).1
end Go.Proofs.YtgdadkkiefkimaaGreat.Alg
end

section
/- The least number whose powers are all, modulo a prime. -/
namespace Go.Proofs.YtgdadkkiefkimaaGreat.Alg

/-- No (p - 1) / q-th power of g is 1. -/
def GenOk (p g : Nat) : Prop := ∀ q, Prime q → q ∣ p - 1 → ((g : Int) ^ ((p - 1) / q)) % (p : Int) ≠ 1
def IsGen (p g : Nat) : Prop := 2 ≤ g ∧ GenOk p g ∧ ∀ h, 2 ≤ h → h < g → ¬ GenOk p h
theorem IsGen.unique {p g h : Nat} (a : IsGen p g) (b : IsGen p h) : g = h := by
  rcases Nat.lt_trichotomy g h with h1 | h1 | h1
  · exact absurd a.2.1 (b.2.2 g a.1 h1)
  · exact h1
  · exact absurd b.2.1 (a.2.2 h b.1 h1)

theorem zt_pow_one {p : Nat} [NeZero p] (hp : 2 ≤ p) (g k : Nat) : ((g : Int) ^ k) % (p : Int) = 1 ↔ pw (zt p g) k = 1 := by
  rw [← zt_pow, ← zt_one, zt_eq, Int.emod_eq_of_lt (show (0 : Int) ≤ 1 by omega) (by omega)]

theorem GenOk.ord {p g : Nat} [NeZero p] (hp : Prime p) (h : GenOk p g) (hg : zt p g ≠ 0) : Ord (zt p g) (p - 1) := by
  have h2 := hp.1
  refine lucas (by omega) (fermat hp _ hg) fun q hq hqd hone => ?_
  exact h q hq hqd ((zt_pow_one h2 g _).2 hone)

theorem GenOk.of_ord {p g : Nat} [NeZero p] (hp : 2 ≤ p) (h : Ord (zt p g) (p - 1)) : GenOk p g := by
  intro q hq hqd hone
  have h1 := (zt_pow_one hp g _).1 hone
  have hd := h.dvd.1 h1
  have hq2 := hq.1
  have hlt : (p - 1) / q < p - 1 := Nat.div_lt_self (by have := h.1; omega) hq2
  have hpos : 0 < (p - 1) / q := Nat.div_pos (Nat.le_of_dvd h.1 hqd) (by omega)
  have := Nat.le_of_dvd hpos hd
  omega

/-- There is one below p. -/
theorem gen_bound {p : Nat} (hp : Prime p) (h3 : 3 ≤ p) : ∃ r, 2 ≤ r ∧ r < p ∧ GenOk p r := by
  haveI : NeZero p := ⟨by omega⟩
  obtain ⟨g, hg⟩ := primitive hp
  have hz : zt p ((g.val : Nat) : Int) = g := zt_of_val g
  refine ⟨g.val, ?_, g.isLt, GenOk.of_ord hp.1 (by rw [hz]; exact hg)⟩
  rcases Nat.lt_or_ge g.val 2 with h | h
  · exfalso
    rcases Nat.lt_or_ge g.val 1 with h1 | h1
    · have hg0 : g = 0 := Fin.ext (by show g.val = 0 % p; rw [Nat.zero_mod]; omega)
      have h2 := hg.2.1
      rw [hg0, show p - 1 = (p - 2) + 1 by omega, pw_succ] at h2
      exact one_ne_zero hp.1 (by rw [← h2]; grind)
    · have hg1 : g = 1 := Fin.ext (by show g.val = 1 % p; rw [Nat.mod_eq_of_lt (by omega)]; omega)
      exact hg.2.2 1 (by omega) (by omega) (by rw [hg1, one_pw])
  · exact h

theorem IsGen.lt {p g : Nat} (hp : Prime p) (h3 : 3 ≤ p) (h : IsGen p g) : g < p := by
  obtain ⟨r, hr2, hrp, hr⟩ := gen_bound hp h3
  rcases Nat.lt_or_ge r g with h1 | h1
  · exact absurd hr (h.2.2 r hr2 h1)
  · omega

theorem IsGen.ord {p g : Nat} [NeZero p] (hp : Prime p) (h3 : 3 ≤ p) (h : IsGen p g) : Ord (zt p g) (p - 1) := by
  refine h.2.1.ord hp fun h0 => ?_
  have h1 := zt_val (p := p) (g : Int)
  rw [h0, Int.emod_eq_of_lt (by omega) (by have := h.lt hp h3; omega)] at h1
  have := h.1
  simp at h1
  omega

theorem test_iff {p g : Nat} {fs : List (Nat × Nat)} (hf : IsFac (p - 1) fs) : fs.any (fun x => (g : Int) ^ (((p : Int) - 1) / x.1).toNat % (p : Int) == 1) = false ↔ (1 ≤ p → GenOk p g) := by
  have e : ∀ x : Nat, 1 ≤ p → (((p : Int) - 1) / (x : Int)).toNat = (p - 1) / x := fun x h1 => by
    have : ((p : Int) - 1) / (x : Int) = (((p - 1) / x : Nat) : Int) := by
      rw [Int.natCast_ediv]; congr 1; omega
    rw [this]; rfl
  rw [Bool.eq_false_iff]
  constructor
  · intro h h1 q hq hqd hone
    obtain ⟨k, hk⟩ := hf.mem hq hqd
    exact h (List.any_eq_true.2 ⟨(q, k), hk, by simp only [e _ h1]; simpa using hone⟩)
  · intro h hany
    obtain ⟨x, hx, ht⟩ := List.any_eq_true.1 hany
    have h1 : 1 ≤ p := by
      rcases Nat.eq_zero_or_pos p with h0 | h0
      · subst h0
        have := hf.prod
        have hd := hf.dvd hx
        have hm := (hf.each x hx).1.1
        exfalso
        have hp0 : ∀ l : List (Nat × Nat), (∀ y ∈ l, Prime y.1 ∧ 1 ≤ y.2) → 1 ≤ prodF l := by
          intro l
          induction l with
          | nil => intro _; simp [prodF]
          | cons y t ih =>
            intro hl
            have := (hl y (by simp)).1.1
            exact Nat.mul_le_mul (Nat.pow_pos (by omega)) (ih fun z hz => hl z (by simp [hz]))
        have := hp0 fs hf.each
        omega
      · exact h0
    exact h h1 x.1 (hf.each x hx).1 (hf.dvd hx) (by simp only [e _ h1] at ht; simpa using ht)
end Go.Proofs.YtgdadkkiefkimaaGreat.Alg
end
