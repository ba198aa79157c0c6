/- The transform of a prime length, by a generator's powers: it is that of the sum. -/
import Derived.Test.YthhkljfgkihfgaaGreatWR2MToPadM
import Derived.Test.YthhkljfgkihfgaaGreatWFacGenGath
set_option linter.unusedVariables false
set_option linter.unusedSimpArgs false
set_option linter.unusedSectionVars false
set_option linter.unusedVariables false
set_option linter.unusedSectionVars false
namespace Go.Proofs.YthhkljfgkihfgaaGreat
open Alg
/-- The power of a generator, as a number. -/
def gp (n : Nat) [NeZero n] (g : Nat) (e : Nat) : Nat := (pw (zt n (g : Int)) e).val
theorem gp_int (n : Nat) [NeZero n] (g e : Nat) : ((gp n g e : Nat) : Int) = (g : Int) ^ e % (n : Int) := by
  unfold gp; rw [← zt_pow, zt_val]
theorem gp_lt (n : Nat) [NeZero n] (g e : Nat) : gp n g e < n := (pw (zt n (g : Int)) e).isLt
section
variable {p : Nat} [NeZero p]
theorem sm_first (n : Nat) (F : Nat → Fin p) : sm (n + 1) F = F 0 + sm n (fun i => F (i + 1)) := by
  rw [Nat.add_comm n 1, sm_split, sm_succ, sm_zero]
  have : (sm n fun i => F (1 + i)) = sm n fun i => F (i + 1) := sm_congr fun i _ => by rw [Nat.add_comm]
  rw [this]; grind
theorem pw_congr_mod {w : Fin p} {n a b : Nat} (h : pw w n = 1) (e : a % n = b % n) : pw w a = pw w b := by rw [pw_mod h a, e, ← pw_mod h b]
theorem rader_zero (w : Fin p) (n : Nat) (x : Nat → Fin p) : dft w n x 0 = sm n x := by
  unfold dft
  exact sm_congr fun j _ => by rw [Nat.zero_mul, pw_zero]; grind
variable {n : Nat} [NeZero n]
theorem gp_pos {g : Nat} (hn : Prime n) (hg : Ord (zt n (g : Int)) (n - 1)) (e : Nat) : 0 < gp n g e := by
  have hne : zt n (g : Int) ≠ 0 := fun h0 => by
    have h1 := hg.2.1
    have := hn.1
    rw [h0, show n - 1 = (n - 2) + 1 by omega, pw_succ] at h1
    exact one_ne_zero hn.1 (by rw [← h1]; grind)
  have h := pw_ne_zero hn hne e
  rcases Nat.eq_zero_or_pos (gp n g e) with h0 | h0
  · exact absurd (Fin.ext (by simpa [gp] using h0)) h
  · exact h0
/-- The transform at the m-th power of the inverse: the first number, and a product round and round. -/
theorem rader_eq {w : Fin p} {g : Nat} (hn : Prime n) (h3 : 3 ≤ n) (hg : Ord (zt n (g : Int)) (n - 1)) (hw : pw w n = 1) (x : Nat → Fin p) {A B : Nat → Fin p} {E : Nat → Nat}
    (hE : ∀ m, m < n - 1 → pw (zt n (g : Int)) (E m) * pw (zt n (g : Int)) m = 1)
    (hA : ∀ q, q < n - 1 → A q = x (gp n g q)) (hB : ∀ q, q < n - 1 → B q = pw w (gp n g (E q))) (m : Nat) (hm : m < n - 1) :
    x 0 + cyc (n - 1) A B m = dft w n x (gp n g (E m)) := by
  have e1 : dft w n x (gp n g (E m)) = x 0 + sm (n - 1) fun j => pw w (gp n g (E m) * (j + 1)) * x (j + 1) := by
    unfold dft
    obtain ⟨k, rfl⟩ : ∃ k, n = k + 1 := ⟨n - 1, by omega⟩
    rw [sm_first, Nat.mul_zero, pw_zero, show k + 1 - 1 = k by omega]; grind
  have e2 : (sm (n - 1) fun j => pw w (gp n g (E m) * (j + 1)) * x (j + 1)) = sm (n - 1) fun q => pw w (gp n g (E m) * gp n g q) * x (gp n g q) := by
    rw [← sm_perm (n - 1) (fun q => gp n g q - 1) (fun j => pw w (gp n g (E m) * (j + 1)) * x (j + 1))]
    · refine sm_congr fun q hq => ?_
      have := gp_pos hn hg q
      rw [show gp n g q - 1 + 1 = gp n g q by omega]
    · intro i hi
      have := gp_pos hn hg i
      have := gp_lt n g i
      omega
    · intro i j hi hj h
      have h1 := gp_pos hn hg i
      have h2 := gp_pos hn hg j
      refine hg.inj hi hj (Fin.ext ?_)
      show gp n g i = gp n g j
      have h' : gp n g i - 1 = gp n g j - 1 := h
      omega
  rw [e1, e2]
  congr 1
  unfold cyc
  refine sm_congr fun q hq => ?_
  have hmod : (m + (n - 1 - q)) % (n - 1) < n - 1 := Nat.mod_lt _ (by omega)
  rw [hA q hq, hB _ hmod]
  have hz : pw w (gp n g (E ((m + (n - 1 - q)) % (n - 1)))) = pw w (gp n g (E m) * gp n g q) := by
    refine pw_congr_mod hw ?_
    have h1 : (zt n (gp n g (E ((m + (n - 1 - q)) % (n - 1))) : Int)) = zt n ((gp n g (E m) * gp n g q : Nat) : Int) := by
      rw [Int.natCast_mul, zt_mul]
      show zt n ((pw (zt n (g : Int)) (E _)).val : Int) = zt n ((pw (zt n (g : Int)) (E m)).val : Int) * zt n ((pw (zt n (g : Int)) q).val : Int)
      rw [zt_of_val, zt_of_val, zt_of_val]
      have hu : ∀ e, e < n - 1 → ∀ a b : Fin n, a * pw (zt n (g : Int)) e = 1 → b * pw (zt n (g : Int)) e = 1 → a = b := fun e _ a b ha hb => by
        have h1 : a * pw (zt n (g : Int)) e * b = b := by rw [ha]; grind
        have h2 : b * pw (zt n (g : Int)) e * a = a := by rw [hb]; grind
        rw [← h1, ← h2]; grind
      refine hu _ hmod _ _ (hE _ hmod) ?_
      rw [← pw_mod hg.2.1, pw_add]
      have k1 := hE m hm
      have k2 : pw (zt n (g : Int)) q * pw (zt n (g : Int)) (n - 1 - q) = 1 := by rw [← pw_add, show q + (n - 1 - q) = n - 1 by omega]; exact hg.2.1
      generalize pw (zt n (g : Int)) (E m) = a1 at *
      generalize pw (zt n (g : Int)) m = a2 at *
      generalize pw (zt n (g : Int)) q = a3 at *
      generalize pw (zt n (g : Int)) (n - 1 - q) = a4 at *
      have : a1 * a3 * (a2 * a4) = (a1 * a2) * (a3 * a4) := by grind
      rw [this, k1, k2]; grind
    have h2 := zt_eq.1 h1
    rw [← Int.natCast_emod, ← Int.natCast_emod] at h2
    exact Int.ofNat.inj h2
  rw [hz]; grind
/-- Each number but 0 is a power of the inverse. -/
theorem rader_all {g : Nat} (hn : Prime n) (hg : Ord (zt n (g : Int)) (n - 1)) {E : Nat → Nat}
    (hE : ∀ m, m < n - 1 → pw (zt n (g : Int)) (E m) * pw (zt n (g : Int)) m = 1) (i : Nat) (h0 : 0 < i) (hi : i < n) : ∃ m, m < n - 1 ∧ gp n g (E m) = i := by
  have hne : zt n (i : Int) ≠ 0 := fun h => by
    rw [← zt_zero, zt_eq, Int.emod_eq_of_lt (by omega) (by omega)] at h
    simp at h; omega
  obtain ⟨y, hy⟩ := inv_exists hn _ hne
  have hy0 : y ≠ 0 := unit_ne_zero hn.1 (b := zt n (i : Int)) (by rw [← hy]; grind)
  obtain ⟨m, hm, he⟩ := hg.all hn.1 y hy0
  refine ⟨m, hm, ?_⟩
  have h1 := hE m hm
  rw [he] at h1
  have : pw (zt n (g : Int)) (E m) = zt n (i : Int) := by
    have h2 : pw (zt n (g : Int)) (E m) * y * zt n (i : Int) = zt n (i : Int) := by rw [h1]; grind
    have h3 : pw (zt n (g : Int)) (E m) * y * zt n (i : Int) = pw (zt n (g : Int)) (E m) * (zt n (i : Int) * y) := by grind
    rw [← h2, h3, hy]; grind
  unfold gp
  rw [this]
  have := zt_val (p := n) (i : Int)
  rw [Int.emod_eq_of_lt (by omega) (by omega)] at this
  omega
end
end Go.Proofs.YthhkljfgkihfgaaGreat
