/- field.Known. -/
import Derived.Test.YtgdadkkiefkimaaKnown
namespace Go.Proofs.Ytgdadkkiefkimaa
open Go.RowKit
theorem known_no (i : Int) (w : World) (h : i < 0 ∨ 5 < i) :
    Calls Try.prog 35 #[.int .i64 i] w (KnownP [] 0 w) := by
  have h0 : (i == 0) = false := by simp; omega
  have h1 : (i == 1) = false := by simp; omega
  have h2 : (i == 2) = false := by simp; omega
  have h3 : (i == 3) = false := by simp; omega
  have h4 : (i == 4) = false := by simp; omega
  have h5 : (i == 5) = false := by simp; omega
  clear h
  go_enter Try.func35, Try.ntmps35
  go_wp2
  go_ret2
  refine ⟨none, 0, rfl, Nat.le_refl _, ?_, fun h => absurd h (by simp)⟩
  repeat (first | exact Below.refl _ _ | refine Below.alloc ?_ (by first | omega | (simp only [World.size_alloc]; omega)) _)

/-- The known primes, and the numbers whose powers are all. -/
def knownPG (i : Int) : Int × Int := if i = 0 then (k0.p, 3) else if i = 1 then (k1.p, 5) else if i = 2 then (k2.p, 6) else if i = 3 then (k3.p, 11) else if i = 4 then (k4.p, 3) else if i = 5 then (k5.p, 3) else (0, 0)
theorem knownPG_in {i : Int} (h : 0 ≤ i ∧ i ≤ 5) : i = 0 ∨ i = 1 ∨ i = 2 ∨ i = 3 ∨ i = 4 ∨ i = 5 := by omega
theorem known_ok {i : Int} (h : 0 ≤ i ∧ i ≤ 5) : (knownE i).length ≤ 4 ∧ AllRight (knownE i) ∧ (∀ e ∈ knownE i, EntOk e) ∧ FirstE (knownE i) (knownPG i).1 (knownPG i).2 := by
  have hE : ∀ (es : List Ent), es.all (fun e => decide (0 ≤ e.p) && decide (e.p ≤ 18446744073709551615) && decide (0 ≤ e.g) && decide (e.g ≤ 18446744073709551615) && decide (e.fs.length ≤ 8796093022208) && e.fs.all (fun x => decide (0 ≤ x.1) && decide (x.1 ≤ 18446744073709551615) && decide (-9223372036854775808 ≤ x.2) && decide (x.2 ≤ 9223372036854775807))) = true → ∀ e ∈ es, EntOk e := by
    intro es h e he
    simp only [List.all_eq_true, Bool.and_eq_true, decide_eq_true_eq] at h
    obtain ⟨⟨⟨⟨⟨a, b⟩, c⟩, d⟩, f⟩, g⟩ := h e he
    exact ⟨a, b, c, d, f, fun x hx => by have := g x hx; omega⟩
  rcases knownPG_in h with rfl | rfl | rfl | rfl | rfl | rfl
  · exact ⟨by decide, allB_ok right0, hE _ (by decide), 3, by decide, by decide, by decide, by decide⟩
  · exact ⟨by decide, allB_ok right1, hE _ (by decide), 1, by decide, by decide, by decide, by decide⟩
  · exact ⟨by decide, allB_ok right2, hE _ (by decide), 1, by decide, by decide, by decide, by decide⟩
  · exact ⟨by decide, allB_ok right3, hE _ (by decide), 2, by decide, by decide, by decide, by decide⟩
  · exact ⟨by decide, allB_ok right4, hE _ (by decide), 2, by decide, by decide, by decide, by decide⟩
  · exact ⟨by decide, allB_ok right5, hE _ (by decide), 1, by decide, by decide, by decide, by decide⟩
theorem known_any (i : Int) (w : World) (h : 0 ≤ i ∧ i ≤ 5) :
    Calls Try.prog 35 #[.int .i64 i] w (KnownP (knownE i) (knownPG i).1 w) := by
  rcases knownPG_in h with rfl | rfl | rfl | rfl | rfl | rfl
  · exact known0_any w
  · exact known1_any w
  · exact known2_any w
  · exact known3_any w
  · exact known4_any w
  · exact known5_any w
theorem knownPG_pos {i : Int} (h : 0 ≤ i ∧ i ≤ 5) : 3 ≤ (knownPG i).1 := by
  rcases knownPG_in h with rfl | rfl | rfl | rfl | rfl | rfl <;> decide

/-- A row proves this prime, and names this number. -/
def Cert (p g : Int) : Prop := ∃ es, AllRight es ∧ FirstE es p g
/-- What a maker of fields answers: none, and an error; or a field of this prime and number. -/
def MadeP (p g : Int) (w : World) (r : Ending) (w' : World) : Prop :=
  Below w.heap.size w w' ∧
  ((∃ er, p = 0 ∧ er ≠ 0 ∧ r = .returned (.tuple #[.pointer none, .int .i64 er])) ∨
   (∃ v, 3 ≤ p ∧ Cert p g ∧ r = .returned (.tuple #[v, .int .i64 0]) ∧ Fd w' w'.heap.size v p g))
set_option maxHeartbeats 1000000 in
theorem Known_any (i : Int) (w : World) :
    Calls Try.prog 19 #[.int .i64 i] w (MadeP (knownPG i).1 (knownPG i).2 w) := by
  by_cases h : 0 ≤ i ∧ i ≤ 5
  · obtain ⟨hl, hA, hE, hF⟩ := known_ok h
    have hk := fun w => known_any i w h
    have hp := knownPG_pos h
    generalize knownE i = es at *
    obtain ⟨p, hpe⟩ : ∃ p, p = (knownPG i).1 := ⟨_, rfl⟩
    obtain ⟨g, hge⟩ : ∃ g, g = (knownPG i).2 := ⟨_, rfl⟩
    rw [← hpe, ← hge]
    rw [← hpe] at hk hp hF
    rw [← hge] at hF
    clear hpe hge h
    have HA := Lib.hid hA
    have HE := Lib.hid hE
    have HF := Lib.hid hF
    clear hA hE hF
    have tp : (p == 0) = false := by simp; omega
    go_enter Try.func19, Try.ntmps19
    go_wp2_with fail
    refine (hk w).mono ?_
    rintro r w1 ⟨A, c, rfl, hlc, hB1, hR⟩
    go_wp2_with fail
    refine (fnew_any A c es p w1 (by omega) hlc hR HE.out).mono ?_
    rintro r w2 ⟨hB2, hN⟩
    have hB := hB1.trans (hB2.mono hB1.size)
    rcases hN with ⟨er, h1, _⟩ | ⟨_, h1, _⟩ | ⟨v, g', h1, hF', rfl, hFd⟩
    · exact absurd HA.out h1
    · obtain ⟨k, hk1, hk2, _⟩ := HF.out
      exact absurd hk2 (h1 _ (by rw [List.getD_eq_getElem?_getD, List.getElem?_eq_getElem hk1]; simp))
    · have hg : g' = g := by
        obtain ⟨a, a1, a2, a3, a4⟩ := HF.out
        obtain ⟨b, b1, b2, b3, b4⟩ := hF'
        have : a = b := by
          rcases Nat.lt_trichotomy a b with h | h | h
          · exact absurd a2 (b4 a h)
          · exact h
          · exact absurd b2 (a4 b h)
        subst this
        rw [← a3, ← b3]
      subst hg
      clear hF' hk hB1 hB2 hR
      go_wp2
      go_ret2
      exact ⟨hB, .inr ⟨v, hp, ⟨es, HA.out, HF.out⟩, rfl, hFd⟩⟩
  · have hz : knownPG i = (0, 0) := by
      unfold knownPG
      rw [if_neg (by omega), if_neg (by omega), if_neg (by omega), if_neg (by omega), if_neg (by omega), if_neg (by omega)]
    rw [hz]
    have hk := fun w => known_no i w (by omega)
    clear h hz
    go_enter Try.func19, Try.ntmps19
    go_wp2_with fail
    refine (hk w).mono ?_
    rintro r w1 ⟨A, c, rfl, hlc, hB1, hR⟩
    go_wp2
    go_ret2
    exact ⟨hB1, .inl ⟨1, rfl, by decide, rfl⟩⟩
end Go.Proofs.Ytgdadkkiefkimaa
