/- A closure asked of each of a slice of powers: slices.IndexFunc, ContainsFunc; the closure of sieve.Generator. -/
import Derived.Test.YtgdadkkiefkimaaGreatSieve
import Derived.Deep.RegionWith
import Derived.Deep.LoopGhost
import Derived.Test.YtgdadkkiefkimaaGreatWFacGen
set_option linter.unusedVariables false
set_option linter.unusedSimpArgs false
set_option linter.unusedSectionVars false
section
/- A closure asked of each of a slice of powers: slices.IndexFunc, ContainsFunc; the closure of sieve.Generator. -/
namespace Go.Proofs.YtgdadkkiefkimaaGreat
open Go.RowKit
open Alg (FacI IsFac Prime)

/-- A slice of powers that is read. -/
def RdPow (w : World) (B : Nat) (A : Option Addr) (fs : List (Nat × Nat)) : Prop :=
  0 < fs.length → ∃ b o, A = some ⟨b, o, none⟩ ∧ b < B ∧ ∀ j, j < fs.length → w.cell? ⟨b, o + j * 2, none⟩ = some (.int .u64 (fs.getD j (0, 0)).1) ∧ w.cell? ⟨b, o + j * 2 + 1, none⟩ = some (.int .i64 (fs.getD j (0, 0)).2)
theorem RdPow.below {w w' : World} {B : Nat} {A : Option Addr} {fs : List (Nat × Nat)} (h : RdPow w B A fs) (hb : Below B w w') : RdPow w' B A fs := fun hl => by
  obtain ⟨b, o, e, hlt, hc⟩ := h hl
  exact ⟨b, o, e, hlt, fun j hj => ⟨(hb.cell (p := ⟨b, _, none⟩) hlt).trans (hc j hj).1, (hb.cell (p := ⟨b, _, none⟩) hlt).trans (hc j hj).2⟩⟩
theorem RdPow.mono {w : World} {B B' : Nat} {A : Option Addr} {fs : List (Nat × Nat)} (h : RdPow w B A fs) (hb : B ≤ B') : RdPow w B' A fs := fun hl => by
  obtain ⟨b, o, e, hlt, hc⟩ := h hl
  exact ⟨b, o, e, by omega, hc⟩
theorem powCells_get (fs : List (Nat × Nat)) (j : Nat) (h : j < fs.length) : (powCells fs)[j * 2]? = some (.int .u64 (fs.getD j (0, 0)).1) ∧ (powCells fs)[j * 2 + 1]? = some (.int .i64 (fs.getD j (0, 0)).2) := by
  induction fs generalizing j with
  | nil => simp at h
  | cons x t ih =>
    cases j with
    | zero => simp [powCells]
    | succ j =>
      have := ih j (by simpa using h)
      have e : powCells (x :: t) = .int .u64 x.1 :: .int .i64 x.2 :: powCells t := by simp [powCells]
      rw [e, show (j + 1) * 2 = j * 2 + 1 + 1 by omega]
      simpa using this
theorem RdPow.of_own {w : World} {base : Nat} {e : TypeId} {v : Value} {fs : List (Nat × Nat)} (h : w.ownsRow base e 2 v fs.length (powCells fs)) : ∃ A c, v = .slice A fs.length c ∧ RdPow w w.heap.size A fs := by
  rcases Nat.eq_zero_or_pos fs.length with h0 | h0
  · rcases h.2 with ⟨rfl, hl⟩ | ⟨g, cap, cur, rfl, _⟩
    · exact ⟨none, 0, by rw [h0], fun hp => by omega⟩
    · exact ⟨_, cap, rfl, fun hp => by omega⟩
  · obtain ⟨g, cap, rfl, _, hlt⟩ := h.form h0
    refine ⟨_, cap, rfl, fun _ => ⟨g, 0, rfl, hlt, fun j hj => ?_⟩⟩
    have hg := powCells_get fs j hj
    have e1 := h.cells (g := g) rfl (j * 2) _ hg.1
    have e2 := h.cells (g := g) rfl (j * 2 + 1) _ hg.2
    have ea : ∀ n, (⟨g, 0, none⟩ : Addr).add n = ⟨g, 0 + n, none⟩ := fun n => by unfold Addr.add; split <;> simp_all
    rw [ea] at e1 e2
    exact ⟨e1, by rw [Nat.add_assoc]; exact e2⟩
theorem below_drewN {B : Nat} {a w : World} (h : Below B a w) (n : Nat) : Below B a (w.drewN n) := ⟨h.os, h.tape, h.output, h.size, h.block⟩

set_option maxHeartbeats 1000000 in
theorem indexPow_any (A : Option Addr) (c : Nat) (ga gp : Addr) (fs : List (Nat × Nat)) (p : Nat × Nat → Bool) (w : World) (hl : fs.length ≤ 140737488351232) (hR : RdPow w w.heap.size A fs)
    (hp : ∀ x ∈ fs, ∀ W, Below w.heap.size w W → Calls Tryz.prog 178 #[.agg #[.int .u64 x.1, .int .i64 x.2], .pointer (some ga), .pointer (some gp)] W fun e W' => e = .returned (.bool (p x)) ∧ Below W.heap.size W W') :
    Calls Tryz.prog 186 #[.slice A fs.length c, .func (.func 178) #[] #[.pointer (some ga), .pointer (some gp)]] w fun e w' => ∃ i : Int, e = .returned (.int .i64 i) ∧ (0 ≤ i ↔ fs.any p = true) ∧ -1 ≤ i ∧ Below w.heap.size w w' := by
  go_enter Tryz.func186, Tryz.ntmps186
  go_wp2
  go_loopw [5, 8] (fun _ i wr => ∃ k : Nat, i = .int .i64 k ∧ k ≤ fs.length ∧ Hid ((fs.take k).any p = false) ∧ Below w.heap.size w wr) (fun _ i _ => fs.length - (intOf i).toNat)
  case atStart => exact ⟨0, rfl, by omega, Lib.hid (by simp), Below.refl _ _⟩
  case round =>
    obtain ⟨k, rfl, hk, hn, hB⟩ := hrel
    by_cases hlt : k < fs.length
    · obtain ⟨b, o, rfl, hbl, hc⟩ := hR (by omega)
      have h1 := (hc k hlt).1
      have h2 := (hc k hlt).2
      have g1 : wr.cell? ⟨b, o + k * 2, none⟩ = some (.int .u64 (fs.getD k (0, 0)).1) := (hB.cell (p := ⟨b, _, none⟩) hbl).trans h1
      have g2 : wr.cell? ⟨b, o + k * 2 + 1, none⟩ = some (.int .i64 (fs.getD k (0, 0)).2) := (hB.cell (p := ⟨b, _, none⟩) hbl).trans h2
      obtain ⟨x, hx⟩ : ∃ x, x = fs.getD k (0, 0) := ⟨_, rfl⟩
      rw [← hx] at g1 g2
      have HX := Lib.hid hx
      clear hx h1 h2 hc hR
      go_wp2_with fail
      have hxm : x ∈ fs := by
        rw [HX.out, List.getD_eq_getElem?_getD, List.getElem?_eq_getElem hlt]
        exact List.getElem_mem hlt
      have htk : Hid ((fs.take (k + 1)).any p = (p x)) := Lib.hid (by
        rw [List.take_succ_eq_append_getElem hlt, List.any_append, hn.out, HX.out, List.getD_eq_getElem?_getD, List.getElem?_eq_getElem hlt]; simp)
      refine (hp x hxm _ hB).mono ?_
      rintro e w2 ⟨rfl, hB2⟩
      have hB3 : Below w.heap.size w w2 := hB.trans (hB2.mono hB.size)
      clear hB hB2 g1 g2
      cases hpx : p x with
      | true =>
        have HA : Hid (fs.any p = true) := Lib.hid (List.any_eq_true.2 ⟨x, hxm, hpx⟩)
        go_wp2
        go_ret
        exact ⟨k, rfl, by simp [HA.out], by omega, hB3⟩
      | false =>
        have HT : Hid ((fs.take (k + 1)).any p = false) := Lib.hid (by rw [htk.out, hpx])
        clear hpx htk
        go_wp2
        go_roundw
        case rel => exact ⟨k + 1, by go_num, by omega, HT, hB3⟩
        case measure => simp [intOf]; omega
    · obtain rfl : k = fs.length := by omega
      have hz := hn.out
      rw [List.take_length] at hz
      have HZ := Lib.hid hz
      clear hz hn
      go_wp2
      go_ret
      exact ⟨-1, rfl, by rw [HZ.out]; simp, by omega, hB⟩

theorem contPow_any (A : Option Addr) (c : Nat) (ga gp : Addr) (fs : List (Nat × Nat)) (p : Nat × Nat → Bool) (w : World) (hl : fs.length ≤ 140737488351232) (hR : RdPow w w.heap.size A fs)
    (hp : ∀ x ∈ fs, ∀ W, Below w.heap.size w W → Calls Tryz.prog 178 #[.agg #[.int .u64 x.1, .int .i64 x.2], .pointer (some ga), .pointer (some gp)] W fun e W' => e = .returned (.bool (p x)) ∧ Below W.heap.size W W') :
    Calls Tryz.prog 177 #[.slice A fs.length c, .func (.func 178) #[] #[.pointer (some ga), .pointer (some gp)]] w fun e w' => e = .returned (.bool (fs.any p)) ∧ Below w.heap.size w w' := by
  have hI := Lib.hid (indexPow_any A c ga gp fs p w hl hR hp)
  clear hp hR
  go_enter Tryz.func177, Tryz.ntmps177
  go_wp2_with fail
  refine hI.out.mono ?_
  rintro e w1 ⟨i, rfl, hi, hi1, hB⟩
  have H := Lib.hid hi
  clear hi
  go_wp2
  go_ret
  exact ⟨ret_bool (by rw [Bool.eq_iff_iff, ← H.out]; simp), hB⟩

theorem genTest_any (x : Nat × Nat) (g p : Int) (b1 b2 : Nat) (w : World) (hx0 : 0 < x.1) (hx : x.1 ≤ 4294967296) (hg0 : 0 ≤ g) (hg : g ≤ 18446744073709551615) (hp0 : 2 ≤ p) (hp : p ≤ 4294967296)
    (c1 : w.cell? ⟨b1, 0, none⟩ = some (.int .u64 g)) (c2 : w.cell? ⟨b2, 0, none⟩ = some (.int .u64 p)) :
    Calls Tryz.prog 178 #[.agg #[.int .u64 x.1, .int .i64 x.2], .pointer (some ⟨b1, 0, none⟩), .pointer (some ⟨b2, 0, none⟩)] w fun e w' => e = .returned (.bool (g ^ ((p - 1) / x.1).toNat % p == 1)) ∧ Below w.heap.size w w' := by
  have hd0 : 0 ≤ (p - 1) / x.1 := Int.ediv_nonneg (by omega) (by omega)
  have hd1 : (p - 1) / x.1 ≤ p - 1 := Int.ediv_le_self _ (by omega)
  have l1 := World.block_lt_of_cell? w _ c1
  have l2 := World.block_lt_of_cell? w _ c2
  go_enter Tryz.func178, Tryz.ntmps178
  go_wp2
  go_quiet ((go_at_call 179; exact Calls.quiet_of (modpow_any _ _ _ _ hg0 hg hd0 (by omega) (by omega) (by omega))))
  go_wp2
  go_ret
  refine ⟨rfl, ?_⟩
  exact below_drewN ((Below.refl _ _).alloc (Nat.le_refl _) _) _
end Go.Proofs.YtgdadkkiefkimaaGreat
end

section
/- sieve.Generator. -/
namespace Go.Proofs.YtgdadkkiefkimaaGreat
open Go.RowKit
open Alg (FacI IsFac Prime GenOk IsGen)

theorem cell_keep {B : Nat} {w w' : World} {b o : Nat} {v : Value} (hB : Below B w w') (h : b < B) (hc : w.cell? ⟨b, o, none⟩ = some v) : w'.cell? ⟨b, o, none⟩ = some v := (hB.cell (p := ⟨b, o, none⟩) h).trans hc
theorem frozen_keep {B : Nat} {w w' : World} {b o : Nat} {v : Bool} (hB : Below B w w') (h : b < B) (hc : w.frozen? ⟨b, o, none⟩ = v) : w'.frozen? ⟨b, o, none⟩ = v := (hB.frozen (p := ⟨b, o, none⟩) h).trans hc

set_option maxHeartbeats 1000000 in
theorem generator_any (p : Nat) (w : World) (h3 : 3 ≤ p) (hp : p ≤ 65536) (hpr : Prime p) :
    Calls Tryz.prog 164 #[.int .u64 p] w fun e w' => ∃ g : Nat, e = .returned (.int .u64 g) ∧ IsGen p g ∧ Below w.heap.size w w' := by
  have ho : Hid ((decide (2 < (p : Int)) && decide ((p : Int) ≤ 65536) && isP (p : Int).toNat) = true) := Lib.hid (by
    simp; exact ⟨by omega, isP_true.2 hpr⟩)
  have e1 : (p : Int) - 1 = ((p - 1 : Nat) : Int) := by omega
  have E1 := Lib.hid e1
  clear e1
  go_enter Tryz.func164, Tryz.ntmps164
  go_wp2_with fail
  refine (odd_any _ _ (by omega) (by omega)).mono ?_
  rintro e w1 ⟨rfl, hB⟩
  rw [ho.out]
  have hs1 : w.heap.size + 1 ≤ w1.heap.size := by have := hB.size; simpa using this
  have cp1 : w1.cell? ⟨w.heap.size, 0, none⟩ = some (.int .u64 p) := (hB.cell (p := ⟨w.heap.size, 0, none⟩) (by simp)).trans (World.cell?_alloc_at _ _ _ _ rfl)
  have hB1 : Below w.heap.size w w1 := ((Below.refl _ _).alloc (Nat.le_refl _) _).trans (hB.mono (by simp))
  clear hB
  go_wp2_with fail
  rw [E1.out]
  refine (factor_any (p - 1) _ (by omega) (by omega)).mono ?_
  rintro e w2 ⟨v, fs, rfl, hF, hown, hB⟩
  obtain ⟨A, c, rfl, hR⟩ := RdPow.of_own hown
  have hlen : fs.length ≤ 140737488351232 := by
    have h1 := Alg.len_le hF.each (Nat.le_of_eq hF.prod)
    have h2 := (Nat.pow_le_pow_iff_right (a := 2) (by omega)).1 (show 2 ^ fs.length ≤ 2 ^ 32 by omega)
    omega
  have hs2 := hB.size
  have cp2 : w2.cell? ⟨w.heap.size, 0, none⟩ = some (.int .u64 p) := cell_keep hB (by omega) cp1
  have hB2 : Below w.heap.size w w2 := hB1.trans (hB.mono (by omega))
  have HF := Lib.hid hF
  clear hB hB1 cp1 hown hF
  obtain ⟨r, hr2, hrp, hr⟩ := Alg.gen_bound hpr h3
  have HR := Lib.hid hr
  clear hr
  go_wp2
  go_loopw [13] (fun _ wr => ∃ g : Nat, 2 ≤ g ∧ g ≤ r ∧ wr.cell? ⟨w2.heap.size, 0, none⟩ = some (.int .u64 g) ∧ wr.frozen? ⟨w2.heap.size, 0, none⟩ = false ∧ Below w2.heap.size w2 wr ∧ w2.heap.size + 1 ≤ wr.heap.size ∧ Hid (∀ h, 2 ≤ h → h < g → ¬ GenOk p h))
    (fun _ wr => (r + 1 - intOf ((wr.cell? ⟨w2.heap.size, 0, none⟩).getD undef)).toNat)
  case atStart => exact ⟨2, by omega, hr2, World.cell?_alloc_at _ _ _ _ rfl, World.frozen?_alloc_at _ _ _ _ rfl, (Below.refl _ _).alloc (Nat.le_refl _) _, by simp, Lib.hid (fun h a b => by omega)⟩
  case round =>
    obtain ⟨g, hg2, hgr, cg, fg, hB3, hsz, hno⟩ := hrel
    have cp3 := cell_keep hB3 (show w.heap.size < w2.heap.size by omega) cp2
    have hC := Lib.hid (contPow_any A c ⟨w2.heap.size, 0, none⟩ ⟨w.heap.size, 0, none⟩ fs (fun x => (g : Int) ^ (((p : Int) - 1) / x.1).toNat % (p : Int) == 1) wr hlen ((hR.below hB3).mono (by omega)) (fun x hx W hW => by
      have hx1 := (HF.out.each x hx).1.1
      have hx2 := Nat.le_of_dvd (by omega) (HF.out.dvd hx)
      exact genTest_any x g p w2.heap.size w.heap.size W (by omega) (by omega) (by omega) (by omega) (by omega) (by omega) (cell_keep hW (by omega) cg) (cell_keep hW (by omega) cp3)))
    have hT := Lib.hid (Alg.test_iff (p := p) (g := g) HF.out)
    clear cp2 hR
    go_wp2_with fail
    refine hC.out.mono ?_
    rintro e w4 ⟨rfl, hB4⟩
    have cg4 := cell_keep hB4 (by omega) cg
    have fg4 := frozen_keep hB4 (by omega) fg
    have hs4 := hB4.size
    have hB5 : Below w2.heap.size w2 w4 := hB3.trans (hB4.mono (by omega))
    have CG := Lib.hid cg
    clear cp3 hB3 hB4 cg fg
    cases hb : fs.any (fun x => (g : Int) ^ (((p : Int) - 1) / x.1).toNat % (p : Int) == 1) with
    | true =>
      have hng : ¬ GenOk p g := fun h => by
        have := hT.out.2 (fun _ => h)
        rw [hb] at this
        cases this
      have hgne : g ≠ r := fun h => hng (h ▸ HR.out)
      have HN := Lib.hid hng
      clear hb hng hT hC
      go_wp2
      go_roundw
      case rel =>
        refine ⟨g + 1, by omega, by omega, World.cell?_setCell_same _ _ _ cg4, by simpa using fg4, hB5.setCell (Nat.le_refl _) _, by simpa using (by omega : w2.heap.size + 1 ≤ w4.heap.size), Lib.hid (fun h a b => ?_)⟩
        by_cases e : h = g
        · exact e ▸ HN.out
        · exact hno.out h a (by omega)
      case measure =>
        rw [World.cell?_setCell_same _ _ _ cg4, CG.out]
        simp [intOf]; omega
    | false =>
      have HG := Lib.hid (hT.out.1 hb (by omega))
      clear hb hT hC
      go_wp2
      go_ret
      exact ⟨g, rfl, ⟨hg2, HG.out, hno.out⟩, hB2.trans (hB5.mono (by omega))⟩
end Go.Proofs.YtgdadkkiefkimaaGreat
end
