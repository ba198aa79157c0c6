/- The least number whose powers are all, modulo a prime. -/
import Derived.Test.YtgdadkkiefkimaaFac
namespace Go.Proofs.Ytgdadkkiefkimaa.Alg

/-- No (p - 1) / q-th power of g is 1. -/
def GenOk (p g : Nat) : Prop := ∀ q, Prime q → q ∣ p - 1 → ((g : Int) ^ ((p - 1) / q)) % (p : Int) ≠ 1
def IsGen (p g : Nat) : Prop := 2 ≤ g ∧ GenOk p g ∧ ∀ h, 2 ≤ h → h < g → ¬ GenOk p h
theorem IsGen.unique {p g h : Nat} (a : IsGen p g) (b : IsGen p h) : g = h := by
  rcases Nat.lt_trichotomy g h with h1 | h1 | h1
  · exact absurd a.2.1 (b.2.2 g a.1 h1)
  · exact h1
  · exact absurd b.2.1 (a.2.2 h b.1 h1)

theorem zt_pow_one {p : Nat} [NeZero p] (hp : 2 ≤ p) (g k : Nat) : ((g : Int) ^ k) % (p : Int) = 1 ↔ pw (zt p g) k = 1 := by
  rw [← zt_pow, ← zt_one, zt_eq, Int.emod_eq_of_lt (show (0 : Int) ≤ 1 by omega) (by omega)]

theorem GenOk.ord {p g : Nat} [NeZero p] (hp : Prime p) (h : GenOk p g) (hg : zt p g ≠ 0) : Ord (zt p g) (p - 1) := by
  have h2 := hp.1
  refine lucas (by omega) (fermat hp _ hg) fun q hq hqd hone => ?_
  exact h q hq hqd ((zt_pow_one h2 g _).2 hone)

theorem GenOk.of_ord {p g : Nat} [NeZero p] (hp : 2 ≤ p) (h : Ord (zt p g) (p - 1)) : GenOk p g := by
  intro q hq hqd hone
  have h1 := (zt_pow_one hp g _).1 hone
  have hd := h.dvd.1 h1
  have hq2 := hq.1
  have hlt : (p - 1) / q < p - 1 := Nat.div_lt_self (by have := h.1; omega) hq2
  have hpos : 0 < (p - 1) / q := Nat.div_pos (Nat.le_of_dvd h.1 hqd) (by omega)
  have := Nat.le_of_dvd hpos hd
  omega

/-- There is one below p. -/
theorem gen_bound {p : Nat} (hp : Prime p) (h3 : 3 ≤ p) : ∃ r, 2 ≤ r ∧ r < p ∧ GenOk p r := by
  haveI : NeZero p := ⟨by omega⟩
  obtain ⟨g, hg⟩ := primitive hp
  have hz : zt p ((g.val : Nat) : Int) = g := zt_of_val g
  refine ⟨g.val, ?_, g.isLt, GenOk.of_ord hp.1 (by rw [hz]; exact hg)⟩
  rcases Nat.lt_or_ge g.val 2 with h | h
  · exfalso
    rcases Nat.lt_or_ge g.val 1 with h1 | h1
    · have hg0 : g = 0 := Fin.ext (by show g.val = 0 % p; rw [Nat.zero_mod]; omega)
      have h2 := hg.2.1
      rw [hg0, show p - 1 = (p - 2) + 1 by omega, pw_succ] at h2
      exact one_ne_zero hp.1 (by rw [← h2]; grind)
    · have hg1 : g = 1 := Fin.ext (by show g.val = 1 % p; rw [Nat.mod_eq_of_lt (by omega)]; omega)
      exact hg.2.2 1 (by omega) (by omega) (by rw [hg1, one_pw])
  · exact h

theorem IsGen.lt {p g : Nat} (hp : Prime p) (h3 : 3 ≤ p) (h : IsGen p g) : g < p := by
  obtain ⟨r, hr2, hrp, hr⟩ := gen_bound hp h3
  rcases Nat.lt_or_ge r g with h1 | h1
  · exact absurd hr (h.2.2 r hr2 h1)
  · omega

theorem IsGen.ord {p g : Nat} [NeZero p] (hp : Prime p) (h3 : 3 ≤ p) (h : IsGen p g) : Ord (zt p g) (p - 1) := by
  refine h.2.1.ord hp fun h0 => ?_
  have h1 := zt_val (p := p) (g : Int)
  rw [h0, Int.emod_eq_of_lt (by omega) (by have := h.lt hp h3; omega)] at h1
  have := h.1
  simp at h1
  omega

theorem test_iff {p g : Nat} {fs : List (Nat × Nat)} (hf : IsFac (p - 1) fs) : fs.any (fun x => (g : Int) ^ (((p : Int) - 1) / x.1).toNat % (p : Int) == 1) = false ↔ (1 ≤ p → GenOk p g) := by
  have e : ∀ x : Nat, 1 ≤ p → (((p : Int) - 1) / (x : Int)).toNat = (p - 1) / x := fun x h1 => by
    have : ((p : Int) - 1) / (x : Int) = (((p - 1) / x : Nat) : Int) := by
      rw [Int.natCast_ediv]; congr 1; omega
    rw [this]; rfl
  rw [Bool.eq_false_iff]
  constructor
  · intro h h1 q hq hqd hone
    obtain ⟨k, hk⟩ := hf.mem hq hqd
    exact h (List.any_eq_true.2 ⟨(q, k), hk, by simp only [e _ h1]; simpa using hone⟩)
  · intro h hany
    obtain ⟨x, hx, ht⟩ := List.any_eq_true.1 hany
    have h1 : 1 ≤ p := by
      rcases Nat.eq_zero_or_pos p with h0 | h0
      · subst h0
        have := hf.prod
        have hd := hf.dvd hx
        have hm := (hf.each x hx).1.1
        exfalso
        have hp0 : ∀ l : List (Nat × Nat), (∀ y ∈ l, Prime y.1 ∧ 1 ≤ y.2) → 1 ≤ prodF l := by
          intro l
          induction l with
          | nil => intro _; simp [prodF]
          | cons y t ih =>
            intro hl
            have := (hl y (by simp)).1.1
            exact Nat.mul_le_mul (Nat.pow_pos (by omega)) (ih fun z hz => hl z (by simp [hz]))
        have := hp0 fs hf.each
        omega
      · exact h0
    exact h h1 x.1 (hf.each x hx).1 (hf.dvd hx) (by simp only [e _ h1] at ht; simpa using ht)
end Go.Proofs.Ytgdadkkiefkimaa.Alg
