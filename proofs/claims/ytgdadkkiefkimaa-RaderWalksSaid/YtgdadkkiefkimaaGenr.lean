/- sieve.Generator. -/
import Derived.Test.YtgdadkkiefkimaaCont
import Derived.Test.YtgdadkkiefkimaaGen
namespace Go.Proofs.Ytgdadkkiefkimaa
open Go.RowKit
open Alg (FacI IsFac Prime GenOk IsGen)

theorem cell_keep {B : Nat} {w w' : World} {b o : Nat} {v : Value} (hB : Below B w w') (h : b < B) (hc : w.cell? ⟨b, o, none⟩ = some v) : w'.cell? ⟨b, o, none⟩ = some v := (hB.cell (p := ⟨b, o, none⟩) h).trans hc
theorem frozen_keep {B : Nat} {w w' : World} {b o : Nat} {v : Bool} (hB : Below B w w') (h : b < B) (hc : w.frozen? ⟨b, o, none⟩ = v) : w'.frozen? ⟨b, o, none⟩ = v := (hB.frozen (p := ⟨b, o, none⟩) h).trans hc

set_option maxHeartbeats 1000000 in
theorem generator_any (p : Nat) (w : World) (h3 : 3 ≤ p) (hp : p ≤ 65536) (hpr : Prime p) :
    Calls Try.prog 14 #[.int .u64 p] w fun e w' => ∃ g : Nat, e = .returned (.int .u64 g) ∧ IsGen p g ∧ Below w.heap.size w w' := by
  have ho : Hid ((decide (2 < (p : Int)) && decide ((p : Int) ≤ 65536) && isP (p : Int).toNat) = true) := Lib.hid (by
    simp; exact ⟨by omega, isP_true.2 hpr⟩)
  have e1 : (p : Int) - 1 = ((p - 1 : Nat) : Int) := by omega
  have E1 := Lib.hid e1
  clear e1
  go_enter Try.func14, Try.ntmps14
  go_wp2_with fail
  refine (odd_any _ _ (by omega) (by omega)).mono ?_
  rintro e w1 ⟨rfl, hB⟩
  rw [ho.out]
  have hs1 : w.heap.size + 1 ≤ w1.heap.size := by have := hB.size; simpa using this
  have cp1 : w1.cell? ⟨w.heap.size, 0, none⟩ = some (.int .u64 p) := (hB.cell (p := ⟨w.heap.size, 0, none⟩) (by simp)).trans (World.cell?_alloc_at _ _ _ _ rfl)
  have hB1 : Below w.heap.size w w1 := ((Below.refl _ _).alloc (Nat.le_refl _) _).trans (hB.mono (by simp))
  clear hB
  go_wp2_with fail
  rw [E1.out]
  refine (factor_any (p - 1) _ (by omega) (by omega)).mono ?_
  rintro e w2 ⟨v, fs, rfl, hF, hown, hB⟩
  obtain ⟨A, c, rfl, hR⟩ := RdPow.of_own hown
  have hlen : fs.length ≤ 140737488351232 := by
    have h1 := Alg.len_le hF.each (Nat.le_of_eq hF.prod)
    have h2 := (Nat.pow_le_pow_iff_right (a := 2) (by omega)).1 (show 2 ^ fs.length ≤ 2 ^ 32 by omega)
    omega
  have hs2 := hB.size
  have cp2 : w2.cell? ⟨w.heap.size, 0, none⟩ = some (.int .u64 p) := cell_keep hB (by omega) cp1
  have hB2 : Below w.heap.size w w2 := hB1.trans (hB.mono (by omega))
  have HF := Lib.hid hF
  clear hB hB1 cp1 hown hF
  obtain ⟨r, hr2, hrp, hr⟩ := Alg.gen_bound hpr h3
  have HR := Lib.hid hr
  clear hr
  go_wp2
  go_loopw [13] (fun _ wr => ∃ g : Nat, 2 ≤ g ∧ g ≤ r ∧ wr.cell? ⟨w2.heap.size, 0, none⟩ = some (.int .u64 g) ∧ wr.frozen? ⟨w2.heap.size, 0, none⟩ = false ∧ Below w2.heap.size w2 wr ∧ w2.heap.size + 1 ≤ wr.heap.size ∧ Hid (∀ h, 2 ≤ h → h < g → ¬ GenOk p h))
    (fun _ wr => (r + 1 - intOf ((wr.cell? ⟨w2.heap.size, 0, none⟩).getD undef)).toNat)
  case atStart => exact ⟨2, by omega, hr2, World.cell?_alloc_at _ _ _ _ rfl, World.frozen?_alloc_at _ _ _ _ rfl, (Below.refl _ _).alloc (Nat.le_refl _) _, by simp, Lib.hid (fun h a b => by omega)⟩
  case round =>
    obtain ⟨g, hg2, hgr, cg, fg, hB3, hsz, hno⟩ := hrel
    have cp3 := cell_keep hB3 (show w.heap.size < w2.heap.size by omega) cp2
    have hC := Lib.hid (contPow_any A c ⟨w2.heap.size, 0, none⟩ ⟨w.heap.size, 0, none⟩ fs (fun x => (g : Int) ^ (((p : Int) - 1) / x.1).toNat % (p : Int) == 1) wr hlen ((hR.below hB3).mono (by omega)) (fun x hx W hW => by
      have hx1 := (HF.out.each x hx).1.1
      have hx2 := Nat.le_of_dvd (by omega) (HF.out.dvd hx)
      exact genTest_any x g p w2.heap.size w.heap.size W (by omega) (by omega) (by omega) (by omega) (by omega) (by omega) (cell_keep hW (by omega) cg) (cell_keep hW (by omega) cp3)))
    have hT := Lib.hid (Alg.test_iff (p := p) (g := g) HF.out)
    clear cp2 hR
    go_wp2_with fail
    refine hC.out.mono ?_
    rintro e w4 ⟨rfl, hB4⟩
    have cg4 := cell_keep hB4 (by omega) cg
    have fg4 := frozen_keep hB4 (by omega) fg
    have hs4 := hB4.size
    have hB5 : Below w2.heap.size w2 w4 := hB3.trans (hB4.mono (by omega))
    have CG := Lib.hid cg
    clear cp3 hB3 hB4 cg fg
    cases hb : fs.any (fun x => (g : Int) ^ (((p : Int) - 1) / x.1).toNat % (p : Int) == 1) with
    | true =>
      have hng : ¬ GenOk p g := fun h => by
        have := hT.out.2 (fun _ => h)
        rw [hb] at this
        cases this
      have hgne : g ≠ r := fun h => hng (h ▸ HR.out)
      have HN := Lib.hid hng
      clear hb hng hT hC
      go_wp2
      go_roundw
      case rel =>
        refine ⟨g + 1, by omega, by omega, World.cell?_setCell_same _ _ _ cg4, by simpa using fg4, hB5.setCell (Nat.le_refl _) _, by simpa using (by omega : w2.heap.size + 1 ≤ w4.heap.size), Lib.hid (fun h a b => ?_)⟩
        by_cases e : h = g
        · exact e ▸ HN.out
        · exact hno.out h a (by omega)
      case measure =>
        rw [World.cell?_setCell_same _ _ _ cg4, CG.out]
        simp [intOf]; omega
    | false =>
      have HG := Lib.hid (hT.out.1 hb (by omega))
      clear hb hT hC
      go_wp2
      go_ret
      exact ⟨g, rfl, ⟨hg2, HG.out, hno.out⟩, hB2.trans (hB5.mono (by omega))⟩
end Go.Proofs.Ytgdadkkiefkimaa
