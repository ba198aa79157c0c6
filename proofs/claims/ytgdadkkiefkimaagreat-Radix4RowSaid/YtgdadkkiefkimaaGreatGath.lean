/- How many primes gather visits: at most twelve for a prime up to 2^16. -/
import Derived.Test.YtgdadkkiefkimaaGreatWFacGen
set_option linter.unusedVariables false
set_option linter.unusedSimpArgs false
set_option linter.unusedSectionVars false
namespace Go.Proofs.YtgdadkkiefkimaaGreat.Alg

/-- A sum over the primes that divide n, by trials from d on (99: out of fuel). -/
def dsum (t : Nat → Nat) (f : Nat) : Nat → Nat → Nat :=
  Nat.rec (motive := fun _ => Nat → Nat → Nat) (fun _ _ => 99) (fun _ ih n d => bif Nat.ble (d * d) n then (bif Nat.beq (n % d) 0 then (bif Nat.beq (n / d % d) 0 then ih (n / d) d else t d + ih (n / d) (d + 1 + d % 2)) else ih n (d + 1 + d % 2)) else (bif Nat.ble n 1 then 0 else t n)) f
/-- How many primes gather visits, at most. -/
def cnt (f : Nat) : Nat → Nat :=
  Nat.rec (motive := fun _ => Nat → Nat) (fun _ => 99) (fun _ ih p => bif Nat.beq p 2 then 0 else 1 + dsum ih 160 (p - 1) 2) f
theorem dsum_succ (t : Nat → Nat) (f n d : Nat) : dsum t (f + 1) n d = bif Nat.ble (d * d) n then (bif Nat.beq (n % d) 0 then (bif Nat.beq (n / d % d) 0 then dsum t f (n / d) d else t d + dsum t f (n / d) (d + 1 + d % 2)) else dsum t f n (d + 1 + d % 2)) else (bif Nat.ble n 1 then 0 else t n) := rfl
theorem cnt_succ (f p : Nat) : cnt (f + 1) p = bif Nat.beq p 2 then 0 else 1 + dsum (cnt f) 160 (p - 1) 2 := rfl

/-- The next trial passes over no prime. -/
theorem next_prime {d q : Nat} (hd : d = 2 ∨ (3 ≤ d ∧ d % 2 = 1)) (hq : Prime q) (h : d < q) : d + 1 + d % 2 ≤ q := by
  rcases hd with rfl | ⟨h3, ho⟩
  · omega
  · rcases Nat.lt_or_ge q (d + 1 + d % 2) with h' | h'
    · have : q = d + 1 := by omega
      have h2 : 2 ∣ q := by omega
      rcases hq.2 2 h2 with h1 | h1 <;> omega
    · exact h'
theorem dsum_eq (t : Nat → Nat) (f : Nat) : ∀ n d : Nat, 1 ≤ n → (d = 2 ∨ (3 ≤ d ∧ d % 2 = 1)) → (∀ q, Prime q → q ∣ n → d ≤ q) → dsum t f n d < 99 →
    ∃ L : List Nat, L.Nodup ∧ (∀ q, q ∈ L ↔ Prime q ∧ q ∣ n) ∧ dsum t f n d = (L.map t).sum := by
  induction f with
  | zero => intro n d _ _ _ h; have h' : 99 < 99 := h; omega
  | succ f ih =>
    intro n d hn hd hq h
    have hd2 : 2 ≤ d := by omega
    rw [dsum_succ] at h ⊢
    cases hb : Nat.ble (d * d) n with
    | false =>
      have hlt : n < d * d := by
        rcases Nat.lt_or_ge n (d * d) with h' | h'
        · exact h'
        · rw [Nat.ble_eq_true_of_le h'] at hb; cases hb
      rw [hb] at h
      simp only [cond_false] at h ⊢
      cases h1 : Nat.ble n 1 with
      | true =>
        have : n = 1 := by have := Nat.le_of_ble_eq_true h1; omega
        subst this
        refine ⟨[], List.nodup_nil, fun q => ⟨fun h => absurd h (by simp), fun h => ?_⟩, by simp⟩
        have := Nat.dvd_one.1 h.2
        have := h.1.1
        omega
      | false =>
        have hn2 : 2 ≤ n := by
          rcases Nat.lt_or_ge 1 n with h' | h'
          · exact h'
          · rw [Nat.ble_eq_true_of_le h'] at h1; cases h1
        have hp : Prime n := by
          refine ⟨hn2, fun e he => ?_⟩
          rcases Nat.eq_or_lt_of_le (Nat.pos_of_dvd_of_pos he (by omega)) with e1 | e1
          · exact .inl e1.symm
          · right
            obtain ⟨k, hk⟩ := he
            rcases Nat.lt_or_ge 1 k with hk1 | hk1
            · obtain ⟨q1, hp1, hd1⟩ := prime_factor e (by omega)
              obtain ⟨q2, hp2, hd2'⟩ := prime_factor k (by omega)
              have a1 := hq q1 hp1 (hk ▸ Nat.dvd_trans hd1 (Nat.dvd_mul_right e k))
              have a2 := hq q2 hp2 (hk ▸ Nat.dvd_trans hd2' (Nat.dvd_mul_left k e))
              have b1 := Nat.le_of_dvd (by omega) hd1
              have b2 := Nat.le_of_dvd (by omega) hd2'
              have : d * d ≤ e * k := Nat.mul_le_mul (by omega) (by omega)
              omega
            · have : k = 1 := by
                rcases Nat.eq_zero_or_pos k with h0 | h0
                · subst h0; omega
                · omega
              subst this; omega
        refine ⟨[n], by simp, fun q => ⟨fun h => ?_, fun h => ?_⟩, by simp⟩
        · rw [List.mem_singleton.1 h]; exact ⟨hp, Nat.dvd_refl n⟩
        · exact List.mem_singleton.2 (h.1.eq_of_dvd hp h.2)
    | true =>
      have hle : d * d ≤ n := Nat.le_of_ble_eq_true hb
      rw [hb] at h
      simp only [cond_true] at h ⊢
      have hd' : d + 1 + d % 2 = 2 ∨ (3 ≤ d + 1 + d % 2 ∧ (d + 1 + d % 2) % 2 = 1) := by omega
      cases h1 : Nat.beq (n % d) 0 with
      | false =>
        have hnd : ¬ d ∣ n := fun hx => by rw [Nat.mod_eq_zero_of_dvd hx] at h1; cases h1
        rw [h1] at h
        simp only [cond_false] at h ⊢
        exact ih n _ hn hd' (fun q hp hdv => next_prime hd hp (by
          have := hq q hp hdv
          rcases Nat.eq_or_lt_of_le this with e | e
          · subst e; exact absurd hdv hnd
          · exact e)) h
      | true =>
        have hdv : d ∣ n := Nat.dvd_of_mod_eq_zero (Nat.eq_of_beq_eq_true h1)
        have hdp : Prime d := by
          obtain ⟨q, hp, hqd⟩ := prime_factor d hd2
          have := hq q hp (Nat.dvd_trans hqd hdv)
          have := Nat.le_of_dvd (by omega) hqd
          have : q = d := by omega
          exact this ▸ hp
        have hnd : d * (n / d) = n := Nat.mul_div_cancel' hdv
        have hn1 : 1 ≤ n / d := Nat.div_pos (by have := Nat.le_of_dvd (by omega) hdv; omega) (by omega)
        have hdiv : n / d ∣ n := ⟨d, by rw [Nat.mul_comm]; exact hnd.symm⟩
        have hsp : ∀ q, Prime q → q ∣ n → q = d ∨ q ∣ n / d := fun q hp hx => by
          rcases hp.dvd_mul (show q ∣ d * (n / d) by rw [hnd]; exact hx) with h | h
          · exact .inl (hp.eq_of_dvd hdp h)
          · exact .inr h
        rw [h1] at h
        simp only [cond_true] at h ⊢
        cases h2 : Nat.beq (n / d % d) 0 with
        | true =>
          have hdd : d ∣ n / d := Nat.dvd_of_mod_eq_zero (Nat.eq_of_beq_eq_true h2)
          rw [h2] at h
          simp only [cond_true] at h ⊢
          obtain ⟨L, a, b, c⟩ := ih (n / d) d hn1 hd (fun q hp hx => hq q hp (Nat.dvd_trans hx hdiv)) h
          refine ⟨L, a, fun q => (b q).trans ⟨fun hx => ⟨hx.1, Nat.dvd_trans hx.2 hdiv⟩, fun hx => ⟨hx.1, ?_⟩⟩, c⟩
          rcases hsp q hx.1 hx.2 with e | e
          · rw [e]; exact hdd
          · exact e
        | false =>
          have hdd : ¬ d ∣ n / d := fun hx => by rw [Nat.mod_eq_zero_of_dvd hx] at h2; cases h2
          rw [h2] at h
          simp only [cond_false] at h ⊢
          obtain ⟨L, a, b, c⟩ := ih (n / d) _ hn1 hd' (fun q hp hx => next_prime hd hp (by
            have := hq q hp (Nat.dvd_trans hx hdiv)
            rcases Nat.eq_or_lt_of_le this with e | e
            · subst e; exact absurd hx hdd
            · exact e)) (by omega)
          refine ⟨d :: L, List.nodup_cons.2 ⟨fun hx => hdd ((b d).1 hx).2, a⟩, fun q => ⟨fun hx => ?_, fun hx => ?_⟩, by rw [List.map_cons, List.sum_cons, c]⟩
          · rcases List.mem_cons.1 hx with e | e
            · rw [e]; exact ⟨hdp, hdv⟩
            · exact ⟨((b q).1 e).1, Nat.dvd_trans ((b q).1 e).2 hdiv⟩
          · rcases hsp q hx.1 hx.2 with e | e
            · exact List.mem_cons.2 (.inl e)
            · exact List.mem_cons.2 (.inr ((b q).2 ⟨hx.1, e⟩))

theorem perm_of_mem {α : Type} [DecidableEq α] {a b : List α} (ha : a.Nodup) (hb : b.Nodup) (h : ∀ x, x ∈ a ↔ x ∈ b) : a.Perm b := by
  rw [List.perm_iff_count]
  intro x
  rw [ha.count, hb.count]
  by_cases hx : x ∈ a
  · rw [if_pos hx, if_pos ((h x).1 hx)]
  · rw [if_neg hx, if_neg (fun k => hx ((h x).2 k))]
theorem perm_sum {a b : List Nat} (h : a.Perm b) : a.sum = b.sum := by
  induction h with
  | nil => rfl
  | cons x _ ih => simp only [List.sum_cons, ih]
  | swap x y l => simp only [List.sum_cons]; omega
  | trans _ _ h1 h2 => rw [h1, h2]
/-- A prime's count is one more than those of its factors' sum. -/
theorem cnt_fac {f p : Nat} {fs : List (Nat × Nat)} (hp : 3 ≤ p) (hf : IsFac (p - 1) fs) (h : cnt (f + 1) p < 99) : cnt (f + 1) p = 1 + ((fs.map (·.1)).map (cnt f)).sum := by
  have hp2 : Nat.beq p 2 = false := by
    cases hb : Nat.beq p 2 with
    | false => rfl
    | true => have := Nat.eq_of_beq_eq_true hb; omega
  rw [cnt_succ, hp2, cond_false] at h ⊢
  obtain ⟨L, a, b, c⟩ := dsum_eq (cnt f) 160 (p - 1) 2 (by omega) (.inl rfl) (fun q hq _ => hq.1) (by omega)
  rw [c]
  have hnd : (fs.map (·.1)).Nodup := by
    exact List.Pairwise.map (R := fun x y : Nat × Nat => x.1 < y.1) _ (fun x y hx => by omega) hf.rise
  have := perm_of_mem a hnd (fun q => by
    rw [b q]
    constructor
    · rintro ⟨hq, hd⟩
      obtain ⟨e, he⟩ := hf.mem hq hd
      exact List.mem_map.2 ⟨(q, e), he, rfl⟩
    · intro hx
      obtain ⟨y, hy, rfl⟩ := List.mem_map.1 hx
      exact ⟨(hf.each y hy).1, hf.dvd hy⟩)
  rw [perm_sum (this.map (cnt f))]

def allC (k : Nat) : Nat → Bool :=
  Nat.rec (motive := fun _ => Nat → Bool) (fun _ => true) (fun _ ih p => bif Nat.ble (cnt 16 p) 12 then ih (p + 2) else false) k
theorem allC_ok (k : Nat) : ∀ p, allC k p = true → ∀ q, p ≤ q → q < p + 2 * k → q % 2 = p % 2 → cnt 16 q ≤ 12 := by
  induction k with
  | zero => intro p _ q h1 h2; omega
  | succ k ih =>
    intro p h q h1 h2 h3
    have h' : (bif Nat.ble (cnt 16 p) 12 then allC k (p + 2) else false) = true := h
    cases hb : Nat.ble (cnt 16 p) 12 with
    | false => rw [hb] at h'; cases h'
    | true =>
      rw [hb, cond_true] at h'
      by_cases e : q = p
      · rw [e]; exact Nat.le_of_ble_eq_true hb
      · exact ih (p + 2) h' q (by omega) (by omega) (by omega)
theorem allC0 : allC 1024 3 = true := by decide +kernel
theorem allC1 : allC 1024 2051 = true := by decide +kernel
theorem allC2 : allC 1024 4099 = true := by decide +kernel
theorem allC3 : allC 1024 6147 = true := by decide +kernel
theorem allC4 : allC 1024 8195 = true := by decide +kernel
theorem allC5 : allC 1024 10243 = true := by decide +kernel
theorem allC6 : allC 1024 12291 = true := by decide +kernel
theorem allC7 : allC 1024 14339 = true := by decide +kernel
theorem allC8 : allC 1024 16387 = true := by decide +kernel
theorem allC9 : allC 1024 18435 = true := by decide +kernel
theorem allC10 : allC 1024 20483 = true := by decide +kernel
theorem allC11 : allC 1024 22531 = true := by decide +kernel
theorem allC12 : allC 1024 24579 = true := by decide +kernel
theorem allC13 : allC 1024 26627 = true := by decide +kernel
theorem allC14 : allC 1024 28675 = true := by decide +kernel
theorem allC15 : allC 1024 30723 = true := by decide +kernel
theorem allC16 : allC 1024 32771 = true := by decide +kernel
theorem allC17 : allC 1024 34819 = true := by decide +kernel
theorem allC18 : allC 1024 36867 = true := by decide +kernel
theorem allC19 : allC 1024 38915 = true := by decide +kernel
theorem allC20 : allC 1024 40963 = true := by decide +kernel
theorem allC21 : allC 1024 43011 = true := by decide +kernel
theorem allC22 : allC 1024 45059 = true := by decide +kernel
theorem allC23 : allC 1024 47107 = true := by decide +kernel
theorem allC24 : allC 1024 49155 = true := by decide +kernel
theorem allC25 : allC 1024 51203 = true := by decide +kernel
theorem allC26 : allC 1024 53251 = true := by decide +kernel
theorem allC27 : allC 1024 55299 = true := by decide +kernel
theorem allC28 : allC 1024 57347 = true := by decide +kernel
theorem allC29 : allC 1024 59395 = true := by decide +kernel
theorem allC30 : allC 1024 61443 = true := by decide +kernel
theorem allC31 : allC 1024 63491 = true := by decide +kernel
theorem cnt_le {p : Nat} (h3 : 3 ≤ p) (hp : p ≤ 65536) (ho : p % 2 = 1) : cnt 16 p ≤ 12 := by
  rcases (show (3 ≤ p ∧ p < 2051) ∨ (2051 ≤ p ∧ p < 4099) ∨ (4099 ≤ p ∧ p < 6147) ∨ (6147 ≤ p ∧ p < 8195) ∨ (8195 ≤ p ∧ p < 10243) ∨ (10243 ≤ p ∧ p < 12291) ∨ (12291 ≤ p ∧ p < 14339) ∨ (14339 ≤ p ∧ p < 16387) ∨ (16387 ≤ p ∧ p < 18435) ∨ (18435 ≤ p ∧ p < 20483) ∨ (20483 ≤ p ∧ p < 22531) ∨ (22531 ≤ p ∧ p < 24579) ∨ (24579 ≤ p ∧ p < 26627) ∨ (26627 ≤ p ∧ p < 28675) ∨ (28675 ≤ p ∧ p < 30723) ∨ (30723 ≤ p ∧ p < 32771) ∨ (32771 ≤ p ∧ p < 34819) ∨ (34819 ≤ p ∧ p < 36867) ∨ (36867 ≤ p ∧ p < 38915) ∨ (38915 ≤ p ∧ p < 40963) ∨ (40963 ≤ p ∧ p < 43011) ∨ (43011 ≤ p ∧ p < 45059) ∨ (45059 ≤ p ∧ p < 47107) ∨ (47107 ≤ p ∧ p < 49155) ∨ (49155 ≤ p ∧ p < 51203) ∨ (51203 ≤ p ∧ p < 53251) ∨ (53251 ≤ p ∧ p < 55299) ∨ (55299 ≤ p ∧ p < 57347) ∨ (57347 ≤ p ∧ p < 59395) ∨ (59395 ≤ p ∧ p < 61443) ∨ (61443 ≤ p ∧ p < 63491) ∨ (63491 ≤ p ∧ p < 65539) by omega) with h | h | h | h | h | h | h | h | h | h | h | h | h | h | h | h | h | h | h | h | h | h | h | h | h | h | h | h | h | h | h | h
  · exact allC_ok 1024 3 allC0 p h.1 h.2 (by omega)
  · exact allC_ok 1024 2051 allC1 p h.1 h.2 (by omega)
  · exact allC_ok 1024 4099 allC2 p h.1 h.2 (by omega)
  · exact allC_ok 1024 6147 allC3 p h.1 h.2 (by omega)
  · exact allC_ok 1024 8195 allC4 p h.1 h.2 (by omega)
  · exact allC_ok 1024 10243 allC5 p h.1 h.2 (by omega)
  · exact allC_ok 1024 12291 allC6 p h.1 h.2 (by omega)
  · exact allC_ok 1024 14339 allC7 p h.1 h.2 (by omega)
  · exact allC_ok 1024 16387 allC8 p h.1 h.2 (by omega)
  · exact allC_ok 1024 18435 allC9 p h.1 h.2 (by omega)
  · exact allC_ok 1024 20483 allC10 p h.1 h.2 (by omega)
  · exact allC_ok 1024 22531 allC11 p h.1 h.2 (by omega)
  · exact allC_ok 1024 24579 allC12 p h.1 h.2 (by omega)
  · exact allC_ok 1024 26627 allC13 p h.1 h.2 (by omega)
  · exact allC_ok 1024 28675 allC14 p h.1 h.2 (by omega)
  · exact allC_ok 1024 30723 allC15 p h.1 h.2 (by omega)
  · exact allC_ok 1024 32771 allC16 p h.1 h.2 (by omega)
  · exact allC_ok 1024 34819 allC17 p h.1 h.2 (by omega)
  · exact allC_ok 1024 36867 allC18 p h.1 h.2 (by omega)
  · exact allC_ok 1024 38915 allC19 p h.1 h.2 (by omega)
  · exact allC_ok 1024 40963 allC20 p h.1 h.2 (by omega)
  · exact allC_ok 1024 43011 allC21 p h.1 h.2 (by omega)
  · exact allC_ok 1024 45059 allC22 p h.1 h.2 (by omega)
  · exact allC_ok 1024 47107 allC23 p h.1 h.2 (by omega)
  · exact allC_ok 1024 49155 allC24 p h.1 h.2 (by omega)
  · exact allC_ok 1024 51203 allC25 p h.1 h.2 (by omega)
  · exact allC_ok 1024 53251 allC26 p h.1 h.2 (by omega)
  · exact allC_ok 1024 55299 allC27 p h.1 h.2 (by omega)
  · exact allC_ok 1024 57347 allC28 p h.1 h.2 (by omega)
  · exact allC_ok 1024 59395 allC29 p h.1 h.2 (by omega)
  · exact allC_ok 1024 61443 allC30 p h.1 h.2 (by omega)
  · exact allC_ok 1024 63491 allC31 p h.1 h.2 (by omega)
end Go.Proofs.YtgdadkkiefkimaaGreat.Alg
