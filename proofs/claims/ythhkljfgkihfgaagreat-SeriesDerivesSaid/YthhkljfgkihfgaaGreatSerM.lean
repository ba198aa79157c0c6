/- Power series over residues, as far as so many numbers. -/
import Derived.Test.YthhkljfgkihfgaaGreatWR2MToPadM
set_option linter.unusedVariables false
set_option linter.unusedSimpArgs false
set_option linter.unusedSectionVars false
set_option linter.unusedVariables false
set_option linter.unusedSectionVars false
namespace Go.Proofs.YthhkljfgkihfgaaGreat
open Alg
section
variable {p : Nat} [NeZero p]
/-- The same, as far as n numbers. -/
def Eqn (n : Nat) (A B : Nat → Fin p) : Prop := ∀ i, i < n → A i = B i
theorem Eqn.refl (n : Nat) (A : Nat → Fin p) : Eqn n A A := fun _ _ => rfl
theorem Eqn.symm {n : Nat} {A B : Nat → Fin p} (h : Eqn n A B) : Eqn n B A := fun i hi => (h i hi).symm
theorem Eqn.trans {n : Nat} {A B C : Nat → Fin p} (h : Eqn n A B) (h' : Eqn n B C) : Eqn n A C := fun i hi => (h i hi).trans (h' i hi)
theorem Eqn.mono {n m : Nat} {A B : Nat → Fin p} (h : Eqn n A B) (hm : m ≤ n) : Eqn m A B := fun i hi => h i (by omega)
theorem cv_eqn {n : Nat} {A A' B B' : Nat → Fin p} (h : Eqn n A A') (h' : Eqn n B B') : Eqn n (cv A B) (cv A' B') := fun i hi =>
  sm_congr fun j hj => by rw [h j (by omega), h' (i - j) (by omega)]
theorem sm_flip (n : Nat) (F : Nat → Fin p) : sm (n + 1) (fun j => F (n - j)) = sm (n + 1) F :=
  sm_perm (n + 1) (fun j => n - j) F (fun i hi => by omega) fun i j hi hj h => by omega
theorem cv_comm (A B : Nat → Fin p) : cv A B = cv B A := by
  funext i
  unfold cv
  rw [← sm_flip]
  exact sm_congr fun j hj => by rw [show i - (i - j) = j by omega]; grind
theorem cv_add (A B C : Nat → Fin p) : cv A (fun i => B i + C i) = fun i => cv A B i + cv A C i := by
  funext i
  unfold cv
  rw [← sm_add]
  exact sm_congr fun j hj => by grind
theorem cv_smul (c : Fin p) (A B : Nat → Fin p) : cv A (fun i => c * B i) = fun i => c * cv A B i := by
  funext i
  unfold cv
  rw [← sm_mul]
  exact sm_congr fun j hj => by grind
/-- Pairs with a sum of at most n, told by the first, or by the sum. -/
theorem sm_tri (n : Nat) (F : Nat → Nat → Fin p) : sm (n + 1) (fun j => sm (n - j + 1) fun k => F j k) = sm (n + 1) (fun s => sm (s + 1) fun j => F j (s - j)) := by
  induction n with
  | zero => rfl
  | succ n ih =>
    rw [sm_succ (n + 1) (fun s => sm (s + 1) fun j => F j (s - j)), ← ih, sm_succ (n + 1) (fun j => sm (n + 1 - j + 1) fun k => F j k)]
    have e1 : (sm (n + 1) fun j => sm (n + 1 - j + 1) fun k => F j k) = (sm (n + 1) fun j => sm (n - j + 1) fun k => F j k) + sm (n + 1) fun j => F j (n + 1 - j) := by
      rw [← sm_add]
      exact sm_congr fun j hj => by rw [show n + 1 - j + 1 = (n - j + 1) + 1 by omega, sm_succ, show n - j + 1 = n + 1 - j by omega]
    rw [e1, show n + 1 - (n + 1) = 0 by omega, sm_succ 0, sm_zero, sm_succ (n + 1) (fun j => F j (n + 1 - j)), show n + 1 - (n + 1) = 0 by omega]
    grind
theorem cv_assoc (A B C : Nat → Fin p) : cv (cv A B) C = cv A (cv B C) := by
  funext i
  have h1 : cv A (cv B C) i = sm (i + 1) fun j => sm (i - j + 1) fun k => A j * (B k * C (i - j - k)) := sm_congr fun j _ => by
    unfold cv; rw [← sm_mul]
  have h2 : cv (cv A B) C i = sm (i + 1) fun s => sm (s + 1) fun j => A j * (B (s - j) * C (i - s)) := sm_congr fun s _ => by
    unfold cv
    have : (sm (s + 1) fun j => A j * B (s - j)) * C (i - s) = C (i - s) * sm (s + 1) fun j => A j * B (s - j) := by grind
    rw [this, ← sm_mul]
    exact sm_congr fun j _ => by grind
  rw [h1, h2, sm_tri]
  exact sm_congr fun s hs => sm_congr fun j hj => by rw [show i - j - (s - j) = i - s by omega]
/-- The series 1. -/
def uno (i : Nat) : Fin p := if i = 0 then 1 else 0
theorem cv_uno (A : Nat → Fin p) : cv A uno = A := by
  funext i
  unfold cv
  rw [sm_succ]
  have : (sm i fun j => A j * uno (i - j)) = 0 := by
    rw [← sm_const0 i]
    exact sm_congr fun j hj => by unfold uno; rw [if_neg (by omega)]; grind
  rw [this, show i - i = 0 by omega]
  unfold uno
  rw [if_pos rfl]; grind
theorem uno_cv (A : Nat → Fin p) : cv uno A = A := by rw [cv_comm, cv_uno]
/-- Twice as many numbers of an inverse are right behind a step. -/
theorem newton {k m : Nat} {A U L : Nat → Fin p} (h : Eqn k (cv A U) uno) (hm : m ≤ 2 * k) (hL : Eqn m L (fun i => 2 * uno i - cv A U i)) : Eqn m (cv A (cv U L)) uno := by
  obtain ⟨E, hE⟩ : ∃ E : Nat → Fin p, E = fun i => uno i - cv A U i := ⟨_, rfl⟩
  have hE0 : ∀ i, i < k → E i = 0 := fun i hi => by rw [hE]; show uno i - cv A U i = 0; rw [h i hi]; grind
  have hEE : ∀ i, i < 2 * k → cv E E i = 0 := fun i hi => by
    unfold cv
    rw [← sm_const0 (i + 1)]
    refine sm_congr fun j hj => ?_
    rcases Nat.lt_or_ge j k with h1 | h1
    · rw [hE0 j h1]; grind
    · rw [hE0 (i - j) (by omega)]; grind
  have hAU : cv A U = fun i => uno i + (-1) * E i := by rw [hE]; funext i; show _ = uno i + -1 * (uno i - cv A U i); grind
  have hLe : (fun i => 2 * (uno i : Fin p) - cv A U i) = fun i => uno i + E i := by rw [hE]; funext i; show _ = uno i + (uno i - cv A U i); grind
  intro i hi
  rw [← cv_assoc, cv_eqn (Eqn.refl m (cv A U)) hL i hi, hLe, cv_add, hAU]
  show cv (fun i => uno i + -1 * E i) uno i + cv (fun i => uno i + -1 * E i) E i = uno i
  rw [cv_uno, cv_comm, cv_add, cv_smul, cv_uno]
  have := hEE i (by omega)
  show uno i + -1 * E i + (E i + -1 * cv E E i) = uno i
  rw [this]; grind
/-- Powers. -/
def spw (A : Nat → Fin p) : Nat → Nat → Fin p
  | 0 => uno
  | e + 1 => cv (spw A e) A
theorem spw_add (A : Nat → Fin p) (a b : Nat) : spw A (a + b) = cv (spw A a) (spw A b) := by
  induction b with
  | zero => exact (cv_uno _).symm
  | succ b ih => rw [← Nat.add_assoc, spw, ih, spw, cv_assoc]
theorem spw_one (A : Nat → Fin p) : spw A 1 = A := uno_cv A
theorem spw_mul (A : Nat → Fin p) (a b : Nat) : spw (spw A a) b = spw A (a * b) := by
  induction b with
  | zero => rw [Nat.mul_zero]; rfl
  | succ b ih => rw [spw, ih, Nat.mul_succ, spw_add]
theorem spw_eqn {n : Nat} {A B : Nat → Fin p} (h : Eqn n A B) (e : Nat) : Eqn n (spw A e) (spw B e) := by
  induction e with
  | zero => exact Eqn.refl _ _
  | succ e ih => exact cv_eqn ih h
end
end Go.Proofs.YthhkljfgkihfgaaGreat
