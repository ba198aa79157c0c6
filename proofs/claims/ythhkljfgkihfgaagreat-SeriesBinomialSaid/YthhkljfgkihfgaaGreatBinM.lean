/- (1 + x)^p, of residues. -/
import Derived.Test.YthhkljfgkihfgaaGreatSerB
set_option linter.unusedVariables false
set_option linter.unusedSimpArgs false
set_option linter.unusedSectionVars false
set_option linter.unusedVariables false
set_option linter.unusedSectionVars false
namespace Go.Proofs.YthhkljfgkihfgaaGreat
open Alg
section
variable {p : Nat} [NeZero p]
theorem rz11_0 : (rz p [1, 1] : Nat → Fin p) 0 = 1 := zt_one
theorem rz11_1 : (rz p [1, 1] : Nat → Fin p) 1 = 1 := zt_one
theorem rz11_2 {i : Nat} (h : 2 ≤ i) : (rz p [1, 1] : Nat → Fin p) i = 0 := by
  unfold rz
  rw [List.getD_eq_getElem?_getD, List.getElem?_eq_none (by simpa using h)]
  exact zt_zero
theorem one_x0 (F : Nat → Fin p) : cv F (rz p [1, 1]) 0 = F 0 := by
  unfold cv
  rw [sm_succ, sm_zero, Nat.sub_self, rz11_0]; grind
theorem one_x (F : Nat → Fin p) (i : Nat) : cv F (rz p [1, 1]) (i + 1) = F (i + 1) + F i := by
  unfold cv
  rw [sm_succ, sm_succ]
  have : (sm i fun j => F j * rz p [1, 1] (i + 1 - j)) = 0 := by
    rw [← sm_const0 i]
    exact sm_congr fun j hj => by rw [rz11_2 (by omega)]; grind
  rw [this, show i + 1 - i = 1 by omega, show i + 1 - (i + 1) = 0 by omega, rz11_0, rz11_1]; grind
theorem bin_zero (e : Nat) : spw (rz p [1, 1]) e 0 = 1 := by
  induction e with
  | zero => rfl
  | succ e ih => rw [spw, one_x0, ih]
theorem ztn (k : Nat) : zt p ((k + 1 : Nat) : Int) = zt p (k : Int) + 1 := by rw [Int.natCast_add, zt_add, ← zt_one]; rfl
theorem bin_rec (e : Nat) : ∀ i, zt p ((i + 1 : Nat) : Int) * spw (rz p [1, 1]) (e + 1) (i + 1) = zt p ((e + 1 : Nat) : Int) * spw (rz p [1, 1]) e i := by
  induction e with
  | zero =>
    intro i
    show zt p ((i + 1 : Nat) : Int) * cv uno (rz p [1, 1]) (i + 1) = zt p ((0 + 1 : Nat) : Int) * uno i
    rw [one_x]
    rcases i with _ | i
    · unfold uno; rw [if_neg (by omega), if_pos rfl]; grind
    · unfold uno; rw [if_neg (by omega), if_neg (by omega)]; grind
  | succ e ih =>
    intro i
    rw [spw, one_x]
    have h1 := ih i
    rcases i with _ | i
    · rw [bin_zero] at h1 ⊢
      have h0 := ztn (p := p) 0
      have h2 := ztn (p := p) (e + 1)
      rw [show zt p ((0 : Nat) : Int) = 0 from zt_zero] at h0
      rw [h2]
      grind
    · have h2 := ih i
      have h3 := ztn (p := p) (i + 1)
      have h4 := ztn (p := p) (e + 1)
      have h5 : spw (rz p [1, 1]) (e + 1) (i + 1) = spw (rz p [1, 1]) e (i + 1) + spw (rz p [1, 1]) e i := by rw [spw, one_x]
      rw [h4]
      have h6 : zt p ((i + 1 + 1 : Nat) : Int) * spw (rz p [1, 1]) (e + 1) (i + 1) = zt p ((i + 1 : Nat) : Int) * spw (rz p [1, 1]) (e + 1) (i + 1) + spw (rz p [1, 1]) (e + 1) (i + 1) := by rw [h3]; grind
      have h7 : zt p ((i + 1 + 1 : Nat) : Int) * (spw (rz p [1, 1]) (e + 1) (i + 1 + 1) + spw (rz p [1, 1]) (e + 1) (i + 1)) = zt p ((i + 1 + 1 : Nat) : Int) * spw (rz p [1, 1]) (e + 1) (i + 1 + 1) + zt p ((i + 1 + 1 : Nat) : Int) * spw (rz p [1, 1]) (e + 1) (i + 1) := by grind
      rw [h7, h6, h1, h2]
      generalize spw (rz p [1, 1]) (e + 1) (i + 1) = x at *
      rw [h5]
      grind
theorem bin_p (hp : Prime p) {n : Nat} (hn : n ≤ p) : Eqn n (spw (rz p [1, 1]) p) uno := fun i hi => by
  rcases i with _ | i
  · rw [bin_zero]; rfl
  · have h2 := hp.1
    obtain ⟨e, he⟩ : ∃ e, p = e + 1 := ⟨p - 1, by omega⟩
    have h1 : zt p ((i + 1 : Nat) : Int) * spw (rz p [1, 1]) p (i + 1) = 0 := by
      have h3 := bin_rec (p := p) (p - 1) i
      rw [show p - 1 + 1 = p by omega] at h3
      rw [h3]
      have : zt p (p : Int) = 0 := by rw [← zt_zero, zt_eq]; simp
      rw [this]; grind
    rcases mul_zero_of hp h1 with h | h
    · exfalso
      rw [← zt_zero, zt_eq, Int.emod_eq_of_lt (by omega) (by omega)] at h
      simp at h
      omega
    · rw [h]; unfold uno; rw [if_neg (by omega)]
end
theorem fit_lt {p : Int} {n : Nat} (h1 : 1 ≤ n) (h2 : n ≤ 512) (hp : 3 ≤ p) (h : fitR (pd (2 * (n : Int))) p = true) : 2 * (n : Int) < p := by
  obtain ⟨_, a2, a3, _⟩ := pd_spec (show 2 * (n : Int) ≤ 4096 by omega)
  unfold fitR at h
  simp only [Bool.and_eq_true, decide_eq_true_eq, beq_iff_eq] at h
  have := Int.le_of_dvd (by omega) (Int.dvd_of_emod_eq_zero h.2)
  omega
end Go.Proofs.YthhkljfgkihfgaaGreat
