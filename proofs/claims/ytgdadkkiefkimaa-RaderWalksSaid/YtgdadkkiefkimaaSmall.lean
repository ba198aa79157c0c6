/- field.Small. -/
import Derived.Test.YtgdadkkiefkimaaRow
import Derived.Test.YtgdadkkiefkimaaKnownF
namespace Go.Proofs.Ytgdadkkiefkimaa
open Go.RowKit
open Alg

def OddP (p : Int) : Prop := 2 < p ∧ p ≤ 65536 ∧ Prime p.toNat
/-- What Small answers. -/
def SmallP (p : Int) (w : World) (r : Ending) (w' : World) : Prop :=
  (OddP p ∧ ∃ g : Nat, IsGen p.toNat g ∧ MadeP p g w r w') ∨ (¬ OddP p ∧ MadeP 0 0 w r w')
set_option maxHeartbeats 1000000 in
theorem Small_any (p : Int) (w : World) (h0 : 0 ≤ p) (h1 : p ≤ 18446744073709551615) : Calls Try.prog 18 #[.int .u64 p] w (SmallP p w) := by
  go_enter Try.func18, Try.ntmps18
  go_wp2_with fail
  refine (row_any p w h0 h1).mono ?_
  rintro r w1 ⟨hB1, ⟨hno, rfl⟩ | ⟨ho, A, c, es, g, rfl, hlc, hR, hE, hA, hF, hG⟩⟩
  · have HN : Hid (¬ OddP p) := Lib.hid hno
    clear hno
    go_wp2
    go_ret2
    exact .inr ⟨HN.out, hB1, .inl ⟨1, rfl, by decide, rfl⟩⟩
  · have HO : Hid (OddP p) := Lib.hid ho
    have HE := Lib.hid hE
    have HA := Lib.hid hA
    have HF := Lib.hid hF
    have HG := Lib.hid hG
    have hl32 := hA.1
    clear hE hA hF hG ho
    go_wp2_with fail
    refine (fnew_any A c es p w1 (by omega) hlc hR HE.out).mono ?_
    rintro r w2 ⟨hB2, hN⟩
    have hB := hB1.trans (hB2.mono hB1.size)
    rcases hN with ⟨er, h1, _⟩ | ⟨_, h1, _⟩ | ⟨v, g', h1, hF', rfl, hFd⟩
    · exact absurd HA.out h1
    · obtain ⟨k, hk1, hk2, _⟩ := HF.out
      exact absurd hk2 (h1 _ (by rw [List.getD_eq_getElem?_getD, List.getElem?_eq_getElem hk1]; simp))
    · have hg : g' = g := by
        obtain ⟨a, a1, a2, a3, a4⟩ := HF.out
        obtain ⟨b, b1, b2, b3, b4⟩ := hF'
        have : a = b := by
          rcases Nat.lt_trichotomy a b with h | h | h
          · exact absurd a2 (b4 a h)
          · exact h
          · exact absurd b2 (a4 b h)
        subst this
        rw [← a3, ← b3]
      subst hg
      have hp3 : 3 ≤ p := by have := HO.out.1; omega
      clear hF' hB1 hB2 hR
      go_wp2
      go_ret2
      exact .inl ⟨HO.out, g, HG.out, hB, .inr ⟨v, hp3, ⟨es, HA.out, HF.out⟩, rfl, hFd⟩⟩
end Go.Proofs.Ytgdadkkiefkimaa
