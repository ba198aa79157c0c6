/- Derivation and evaluation of a product. -/
import Derived.Test.YthhkljfgkihfgaaGreatRef25
set_option linter.unusedVariables false
set_option linter.unusedSimpArgs false
set_option linter.unusedSectionVars false
set_option linter.unusedVariables false
set_option linter.unusedSectionVars false
namespace Go.Proofs.YthhkljfgkihfgaaGreat
open Alg
section
variable {p : Nat} [NeZero p]
theorem sm_pad {n m : Nat} (f : Nat → Fin p) (h : ∀ i, m ≤ i → f i = 0) (hm : m ≤ n) : sm n f = sm m f := by
  induction n with
  | zero =>
    obtain rfl : m = 0 := by omega
    rfl
  | succ n ih =>
    rcases Nat.eq_or_lt_of_le hm with e | e
    · rw [e]
    · rw [sm_succ, ih (by omega), h n (by omega)]; grind
theorem der_mul (A B : Nat → Fin p) (i : Nat) : derL (cv A B) i = cv (derL A) B i + cv A (derL B) i := by
  have e1 : derL (cv A B) i = sm (i + 1 + 1) (fun j => zt p (j : Int) * (A j * B (i + 1 - j))) + sm (i + 1 + 1) (fun j => zt p ((i + 1 - j : Nat) : Int) * (A j * B (i + 1 - j))) := by
    unfold derL cv
    rw [← sm_mul, ← sm_add]
    refine sm_congr fun j hj => ?_
    have : zt p ((i : Int) + 1) = zt p (j : Int) + zt p ((i + 1 - j : Nat) : Int) := by
      rw [← zt_add]; congr 1; omega
    rw [this]; grind
  rw [e1, sm_first, sm_succ (i + 1) (fun j => zt p ((i + 1 - j : Nat) : Int) * (A j * B (i + 1 - j)))]
  have e2 : (sm (i + 1) fun j => zt p ((j + 1 : Nat) : Int) * (A (j + 1) * B (i + 1 - (j + 1)))) = cv (derL A) B i := sm_congr fun j hj => by
    unfold derL
    rw [show i + 1 - (j + 1) = i - j by omega, show ((j + 1 : Nat) : Int) = (j : Int) + 1 by omega]; grind
  have e3 : (sm (i + 1) fun j => zt p ((i + 1 - j : Nat) : Int) * (A j * B (i + 1 - j))) = cv A (derL B) i := sm_congr fun j hj => by
    unfold derL
    rw [show i + 1 - j = i - j + 1 by omega, show ((i - j + 1 : Nat) : Int) = ((i - j : Nat) : Int) + 1 by omega]; grind
  rw [e2, e3, Nat.sub_self]
  have h0 : zt p ((0 : Nat) : Int) = 0 := zt_zero
  rw [h0]; grind
theorem ev_prod {A B : Nat → Fin p} (x : Fin p) {a b : Nat} (ha : ∀ i, a ≤ i → A i = 0) (hb : ∀ i, b ≤ i → B i = 0) (h0 : 1 ≤ a + b) :
    sm (a + b) (fun s => cv A B s * pw x s) = sm a (fun i => A i * pw x i) * sm b (fun i => B i * pw x i) := by
  obtain ⟨m, hm⟩ : ∃ m, a + b = m + 1 := ⟨a + b - 1, by omega⟩
  have h1 : sm (m + 1) (fun s => cv A B s * pw x s) = sm (m + 1) fun s => sm (s + 1) fun j => A j * B (s - j) * pw x (j + (s - j)) := sm_congr fun s hs => by
    unfold cv
    have : (sm (s + 1) fun j => A j * B (s - j)) * pw x s = pw x s * sm (s + 1) fun j => A j * B (s - j) := by grind
    rw [this, ← sm_mul]
    exact sm_congr fun j hj => by rw [show j + (s - j) = s by omega]; grind
  have h2 := sm_tri (p := p) m (fun j k => A j * B k * pw x (j + k))
  rw [hm, h1]
  have h2' : (sm (m + 1) fun s => sm (s + 1) fun j => A j * B (s - j) * pw x (j + (s - j))) = sm (m + 1) fun j => sm (m - j + 1) fun k => A j * B k * pw x (j + k) := h2.symm
  rw [h2', ← sm_pad (n := m + 1) (fun i => A i * pw x i) (fun i hi => by rw [ha i hi]; grind) (by omega)]
  have h3 : (sm (m + 1) fun i => A i * pw x i) * sm b (fun i => B i * pw x i) = sm b (fun i => B i * pw x i) * sm (m + 1) fun i => A i * pw x i := by grind
  rw [h3, ← sm_mul]
  refine sm_congr fun j hj => ?_
  have h4 : (sm (m - j + 1) fun k => A j * B k * pw x (j + k)) = A j * pw x j * sm (m - j + 1) fun k => B k * pw x k := by
    rw [← sm_mul]
    exact sm_congr fun k hk => by rw [pw_add]; grind
  rw [h4]
  by_cases hja : j < a
  · rw [sm_pad (n := m - j + 1) (m := b) (fun k => B k * pw x k) (fun i hi => by rw [hb i hi]; grind) (by omega)]; grind
  · rw [ha j (by omega)]; grind
theorem rz_out {L : List Int} {i : Nat} (h : L.length ≤ i) : rz p L i = 0 := by
  unfold rz
  rw [List.getD_eq_getElem?_getD, List.getElem?_eq_none h]
  exact zt_zero
theorem der_pad (L : List Int) : padz (L.length - 1) (derL (rz p L)) = derL (rz p L) := by
  funext i
  rcases Nat.lt_or_ge i (L.length - 1) with h | h
  · exact padz_in h
  · rw [padz_out h]
    unfold derL
    rw [rz_out (by omega)]; grind
theorem der_lst (n : Nat) (C : Nat → Fin p) : lst (n - 1) (derL (rz p (lst n C))) = lst (n - 1) (derL C) := lst_congr fun i hi => by
  rw [rz_pad]
  unfold derL
  rw [padz_in (by omega)]
theorem evl_prod (L M : List Int) (x : Fin p) (h0 : 1 ≤ L.length + M.length) : ev ((lst (L.length + M.length) (cv (rz p L) (rz p M))).map (zt p)) x = ev (L.map (zt p)) x * ev (M.map (zt p)) x := by
  rw [evl_sum, evl_sum, evl_sum, lst_length, rz_pad]
  rw [← ev_prod x (fun i h => rz_out h) (fun i h => rz_out h) h0]
  exact sm_congr fun i hi => by rw [padz_in hi]
end
end Go.Proofs.YthhkljfgkihfgaaGreat
