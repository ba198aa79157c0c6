/- proof.right, proof.Check. -/
import Derived.Test.YtmalmijdjhkklaaGreatWEntWholeFull
import Derived.Test.YtmalmijdjhkklaaGreatWBitsRef02BRev
set_option linter.unusedVariables false
set_option linter.unusedSimpArgs false
set_option linter.unusedSectionVars false
section
/- proof.right, proof.Check. -/
namespace Go.Proofs.YtmalmijdjhkklaaGreat
open Go.RowKit

/-- An entry is right, behind those ahead of it. -/
structure RightP (ahead : List Ent) (e : Ent) : Prop where
  odd : e.p % 2 = 1
  p3 : 3 ≤ e.p
  pm : e.p < 9223372036854775808
  g2 : 2 ≤ e.g
  gp : e.g < e.p
  asc : 0 < ahead.length → (ahead.getD (ahead.length - 1) Ent.none).p < e.p
  whole : WholeP ahead e
  full : FullP e

/-- A call that answers whether P holds, and leaves all old memory. -/
def BoolP (P : Prop) (w : World) (r : Ending) (w' : World) : Prop := ∃ b, r = .returned (.bool b) ∧ (b = true ↔ P) ∧ Below w.heap.size w w'
theorem BoolP.no {P : Prop} {w w' : World} (h : ¬ P) (hB : Below w.heap.size w w') : BoolP P w (.returned (.bool false)) w' := ⟨false, rfl, by simp [h], hB⟩
theorem BoolP.iff {P : Prop} {w w' : World} {b : Bool} (h : b = true ↔ P) (hB : Below w.heap.size w w') : BoolP P w (.returned (.bool b)) w' := ⟨b, rfl, h, hB⟩
set_option maxHeartbeats 2000000 in
set_option maxRecDepth 100000 in
theorem right_any (A AF : Option Addr) (c cF : Nat) (ahead : List Ent) (e : Ent) (w : World) (hl : ahead.length ≤ 40) (hR : RdE w w.heap.size A ahead) (hE : EntOk e) (hF : RdPI w w.heap.size AF e.fs) :
    Calls Tryz.prog 161 #[.slice A ahead.length c, .agg #[.int .u64 e.p, .int .u64 e.g, .slice AF e.fs.length cF]] w (BoolP (RightP ahead e) w) := by
  have hp0 := hE.p0
  have hp1 := hE.p1
  have hg0 := hE.g0
  have hg1 := hE.g1
  have ea := and_one e.p hp0 hp1
  have hBx := (Below.refl w.heap.size w).alloc (Nat.le_refl _) (.cells #[.int .u64 e.p, .int .u64 e.g, .slice AF e.fs.length cF] 115)
  by_cases ho : e.p % 2 = 1
  · have t1 : (bits .and .u64 e.p 1 == 0) = false := by rw [ea, ho]; rfl
    have HO := Lib.hid ho
    clear ea ho
    by_cases h5 : 3 ≤ e.p ∧ e.p < 9223372036854775808 ∧ 2 ≤ e.g ∧ e.g < e.p
    · obtain ⟨p3, pm, g2, gp⟩ := h5
      go_enter Tryz.func161, Tryz.ntmps161
      go_upto_region 4 with fail
      have hs0 : w.heap.size + 1 ≤ (w.alloc (.cells #[.int .u64 e.p, .int .u64 e.g, .slice AF e.fs.length cF] 115)).heap.size := by simp
      have k0 : (w.alloc (.cells #[.int .u64 e.p, .int .u64 e.g, .slice AF e.fs.length cF] 115)).cell? ⟨w.heap.size, 0, none⟩ = some (.int .u64 e.p) := World.cell?_alloc_at _ _ _ _ rfl
      have k1 : (w.alloc (.cells #[.int .u64 e.p, .int .u64 e.g, .slice AF e.fs.length cF] 115)).cell? ⟨w.heap.size, 1, none⟩ = some (.int .u64 e.g) := World.cell?_alloc_at _ _ _ _ rfl
      have k2 : (w.alloc (.cells #[.int .u64 e.p, .int .u64 e.g, .slice AF e.fs.length cF] 115)).cell? ⟨w.heap.size, 2, none⟩ = some (.slice AF e.fs.length cF) := World.cell?_alloc_at _ _ _ _ rfl
      generalize w.alloc (.cells #[.int .u64 e.p, .int .u64 e.g, .slice AF e.fs.length cF] 115) = w1 at *
      have hR1 := (hR.below hBx).mono (show w.heap.size ≤ w1.heap.size by omega)
      have hF1 := Lib.hid ((hF.below hBx).mono (show w.heap.size ≤ w1.heap.size by omega))
      clear hR hF
      obtain ⟨bad, hbad⟩ : ∃ bad : Bool, bad = (decide (0 < ahead.length) && decide (e.p ≤ (ahead.getD (ahead.length - 1) Ent.none).p)) := ⟨_, rfl⟩
      go_cut [46] (fun v wx => v = .bool bad ∧ Below w1.heap.size w1 wx)
      case first =>
        by_cases hn : ahead.length = 0
        · have t5 : decide ((0 : Int) < ahead.length) = false := decide_eq_false_iff_not.2 (by omega)
          have t5' : decide (0 < ahead.length) = false := decide_eq_false_iff_not.2 (by omega)
          have HB : Hid (bad = false) := Lib.hid (by rw [hbad, t5']; rfl)
          clear hbad hn
          go_quiet (fail)
          go_wp2_with fail
          go_meet
          exact ⟨by rw [HB.out], below_drewN (Below.refl _ _) _⟩
        · have t5 : decide ((0 : Int) < ahead.length) = true := decide_eq_true_iff.2 (by omega)
          have t5' : decide (0 < ahead.length) = true := decide_eq_true_iff.2 (by omega)
          obtain ⟨b, o, rfl, hb, hc⟩ := hR1 (by omega)
          obtain ⟨A', c', hEl⟩ := hc (ahead.length - 1) (by omega)
          have d0 := hEl.c0
          obtain ⟨y, hy⟩ : ∃ y, y = (ahead.getD (ahead.length - 1) Ent.none).p := ⟨_, rfl⟩
          rw [← hy] at d0 hbad
          have HB : Hid (bad = decide (e.p ≤ y)) := Lib.hid (by rw [hbad, t5']; rfl)
          have ek : ((ahead.length : Int) - 1) = ((ahead.length - 1 : Nat) : Int) := by omega
          have hkl : ahead.length - 1 < ahead.length := by omega
          clear hbad hy hc hEl hR1
          generalize ahead.length = n at *
          go_quiet (fail)
          go_wp2_with fail
          go_meet
          exact ⟨by rw [HB.out], below_drewN (Below.refl _ _) _⟩
      case rest =>
        obtain ⟨rfl, hBc⟩ := hcut
        have HBAD := Lib.hid hbad
        clear hbad
        cases bad with
        | true =>
          have hno : Hid (¬ RightP ahead e) := Lib.hid (fun h => by
            have hb := HBAD.out
            rcases Nat.eq_zero_or_pos ahead.length with h0 | h0
            · rw [h0] at hb; simp at hb
            · have h1 := h.asc h0
              have hd : decide (e.p ≤ (ahead.getD (ahead.length - 1) Ent.none).p) = false := decide_eq_false_iff_not.2 (by omega)
              rw [hd] at hb
              simp at hb)
          go_wp2
          go_ret
          exact BoolP.no hno.out (hBx.trans (hBc.mono (by omega)))
        | false =>
          have hasc : Hid (0 < ahead.length → (ahead.getD (ahead.length - 1) Ent.none).p < e.p) := Lib.hid (fun h0 => by
            have hb := HBAD.out
            rw [show decide (0 < ahead.length) = true by simpa using h0] at hb
            exact Int.not_le.1 (decide_eq_false_iff_not.1 hb.symm))
          have j0 := cell_keep hBc (by omega) k0
          have j1 := cell_keep hBc (by omega) k1
          have j2 := cell_keep hBc (by omega) k2
          have hR2 := (hR1.below hBc).mono hBc.size
          have hF2 := (hF1.out.below hBc).mono hBc.size
          have hBw := hBx.trans (hBc.mono (show w.heap.size ≤ w1.heap.size by omega))
          have hsz : w.heap.size + 1 ≤ wc.heap.size := by have := hBc.size; omega
          clear k0 k1 k2 hR1 hBc hBx hF1 HBAD
          go_wp2_with fail
          refine (whole_any A AF c cF ahead e _ hl hR2 hE p3 hF2).mono ?_
          rintro r w2 ⟨b, rfl, hb, hB2⟩
          have i0 := cell_keep hB2 (by omega) j0
          have i1 := cell_keep hB2 (by omega) j1
          have i2 := cell_keep hB2 (by omega) j2
          have hF3 := (hF2.below hB2).mono hB2.size
          have hBv := hBw.trans (hB2.mono (show w.heap.size ≤ wc.heap.size by omega))
          have HBW := Lib.hid hb
          clear hb j0 j1 j2 hR2 hF2 hB2 hBw
          cases b with
          | false =>
            have hno : Hid (¬ RightP ahead e) := Lib.hid (fun h => by have := HBW.out.2 h.whole; cases this)
            go_wp2
            go_ret
            exact BoolP.no hno.out hBv
          | true =>
            have hW := Lib.hid (HBW.out.1 rfl)
            have hq2 : ∀ x ∈ e.fs, 2 ≤ x.1 := fun x hx => by
              obtain ⟨k, hk, rfl⟩ := List.getElem_of_mem hx
              have := hW.out.two_le k hk
              simpa only [List.getD_eq_getElem?_getD, List.getElem?_eq_getElem hk, Option.getD_some] using this
            have HQ := Lib.hid hq2
            clear hq2
            go_wp2_with fail
            refine (full_any AF cF e _ hE p3 pm HO.out HQ.out hF3).mono ?_
            rintro r w3 ⟨b, rfl, hb, hB3⟩
            have HBF := Lib.hid hb
            clear hb
            go_wp2
            go_ret
            refine BoolP.iff ?_ (hBv.trans (hB3.mono (by have := hBv.size; omega)))
            rw [HBF.out]
            exact ⟨fun h => ⟨HO.out, p3, pm, g2, gp, hasc.out, hW.out, h⟩, fun h => h.full⟩
    · have hno : Hid (¬ RightP ahead e) := Lib.hid (fun h => h5 ⟨h.p3, h.pm, h.g2, h.gp⟩)
      have t5 : e.p < 3 ∨ (¬ e.p < 3 ∧ 9223372036854775808 ≤ e.p) ∨ (¬ e.p < 3 ∧ ¬ 9223372036854775808 ≤ e.p ∧ e.g < 2) ∨ (¬ e.p < 3 ∧ ¬ 9223372036854775808 ≤ e.p ∧ ¬ e.g < 2 ∧ e.p ≤ e.g) := by omega
      clear h5
      rcases t5 with a1 | ⟨a1, a2⟩ | ⟨a1, a2, a3⟩ | ⟨a1, a2, a3, a4⟩
      all_goals
        go_enter Tryz.func161, Tryz.ntmps161
        go_wp2
        go_ret
        exact BoolP.no hno.out hBx
  · have hno : Hid (¬ RightP ahead e) := Lib.hid (fun h => ho h.odd)
    have t1 : (bits .and .u64 e.p 1 == 0) = true := by rw [ea, beq_iff_eq]; omega
    clear ea ho
    go_enter Tryz.func161, Tryz.ntmps161
    go_wp2
    go_ret
    exact BoolP.no hno.out hBx

/-- The first entry that isn't right, and the error's number. -/
def CheckR (es : List Ent) (i er : Int) : Prop :=
  (32 < es.length ∧ i = 0 ∧ er = 13) ∨ (es.length ≤ 32 ∧ ∃ k : Nat, k < es.length ∧ i = k ∧ er = 3 ∧ (∀ j, j < k → RightP (es.take j) (es.getD j Ent.none)) ∧ ¬ RightP (es.take k) (es.getD k Ent.none)) ∨
  (es.length ≤ 32 ∧ i = 0 ∧ er = 0 ∧ ∀ j, j < es.length → RightP (es.take j) (es.getD j Ent.none))
theorem CheckR.unique {es : List Ent} {i er i' er' : Int} (h : CheckR es i er) (h' : CheckR es i' er') : i = i' ∧ er = er' := by
  rcases h with ⟨a, b, c⟩ | ⟨a, k, hk, b, c, d, f⟩ | ⟨a, b, c, d⟩ <;> rcases h' with ⟨a', b', c'⟩ | ⟨a', k', hk', b', c', d', f'⟩ | ⟨a', b', c', d'⟩
  · omega
  · omega
  · omega
  · omega
  · have : k = k' := by
      rcases Nat.lt_trichotomy k k' with h | h | h
      · exact absurd (d' k h) f
      · exact h
      · exact absurd (d k' h) f'
    omega
  · exact absurd (d' k hk) f
  · omega
  · exact absurd (d k' hk') f'
  · omega
def CheckP (es : List Ent) (w : World) (r : Ending) (w' : World) : Prop := ∃ i er, r = .returned (.tuple #[.int .i64 i, .int .i64 er]) ∧ CheckR es i er ∧ Below w.heap.size w w'

set_option maxHeartbeats 2000000 in
set_option maxRecDepth 100000 in
theorem check_any (A : Option Addr) (c : Nat) (es : List Ent) (w : World) (hl : es.length ≤ 140737488351232) (hlc : es.length ≤ c) (hR : RdE w w.heap.size A es) (hE : ∀ e ∈ es, EntOk e) :
    Calls Tryz.prog 99 #[.slice A es.length c] w (CheckP es w) := by
  by_cases h32 : 32 < es.length
  · have t1 : decide ((32 : Int) < es.length) = true := by simp; omega
    have HC : Hid (CheckR es 0 13) := Lib.hid (.inl ⟨h32, rfl, rfl⟩)
    clear h32
    go_enter Tryz.func99, Tryz.ntmps99
    go_wp2
    go_ret2
    exact ⟨0, 13, rfl, HC.out, Below.refl _ _⟩
  · have t1 : decide ((32 : Int) < es.length) = false := by simp; omega
    go_enter Tryz.func99, Tryz.ntmps99
    go_wp2
    go_loopw [11] (fun I wr => ∃ k : Nat, I = .int .i64 k ∧ k ≤ es.length ∧ Hid (∀ j, j < k → RightP (es.take j) (es.getD j Ent.none)) ∧ Below w.heap.size w wr) (fun I _ => es.length - (intOf I).toNat)
    case atStart => exact ⟨0, rfl, by omega, Lib.hid (fun j hj => by omega), Below.refl _ _⟩
    case round =>
      obtain ⟨k, rfl, hk, hok, hB⟩ := hrel
      by_cases hlt : k < es.length
      · obtain ⟨b, o, rfl, hb, hc⟩ := (hR.below hB) (by omega)
        obtain ⟨A', c', hEl⟩ := hc k hlt
        have d0 := hEl.c0
        have d1 := hEl.c1
        have d2 := hEl.c2
        have dr := hEl.rd
        obtain ⟨x, hx⟩ : ∃ x, x = es.getD k Ent.none := ⟨_, rfl⟩
        rw [← hx] at d0 d1 d2 dr
        have hxm : x ∈ es := by rw [hx, List.getD_eq_getElem?_getD, List.getElem?_eq_getElem hlt]; exact List.getElem_mem hlt
        have hxo := hE x hxm
        have HX := Lib.hid hx
        have hRt := (hR.take k).below hB
        have hlk : (es.take k).length = k := by rw [List.length_take]; omega
        have HLK := Lib.hid hlk
        clear hx hEl hlk hc
        go_upto_region 6 with fail
        have hBx := hB.alloc hB.size (.cells #[.int .u64 x.p, .int .u64 x.g, .slice A' x.fs.length c'] 115)
        have hBr := (Below.refl wr.heap.size wr).alloc (Nat.le_refl _) (.cells #[.int .u64 x.p, .int .u64 x.g, .slice A' x.fs.length c'] 115)
        have k0 : (wr.alloc (.cells #[.int .u64 x.p, .int .u64 x.g, .slice A' x.fs.length c'] 115)).cell? ⟨wr.heap.size, 0, none⟩ = some (.int .u64 x.p) := World.cell?_alloc_at _ _ _ _ rfl
        have k1 : (wr.alloc (.cells #[.int .u64 x.p, .int .u64 x.g, .slice A' x.fs.length c'] 115)).cell? ⟨wr.heap.size, 1, none⟩ = some (.int .u64 x.g) := World.cell?_alloc_at _ _ _ _ rfl
        have k2 : (wr.alloc (.cells #[.int .u64 x.p, .int .u64 x.g, .slice A' x.fs.length c'] 115)).cell? ⟨wr.heap.size, 2, none⟩ = some (.slice A' x.fs.length c') := World.cell?_alloc_at _ _ _ _ rfl
        have hsz : wr.heap.size + 1 ≤ (wr.alloc (.cells #[.int .u64 x.p, .int .u64 x.g, .slice A' x.fs.length c'] 115)).heap.size := by simp
        generalize wr.alloc (.cells #[.int .u64 x.p, .int .u64 x.g, .slice A' x.fs.length c'] 115) = w1 at *
        have hws := hB.size
        have hCl : Hid (∀ W, Below w1.heap.size w1 W → Calls Tryz.prog 161 #[.slice (some ⟨b, o, none⟩) k c, .agg #[.int .u64 x.p, .int .u64 x.g, .slice A' x.fs.length c']] W (BoolP (RightP (es.take k) x) W)) := Lib.hid (fun W hW => by
          have h1 := right_any (some ⟨b, o, none⟩) A' c c' (es.take k) x W (by rw [HLK.out]; omega) (((hRt.mono (show w.heap.size ≤ wr.heap.size by omega)).below hBr |>.mono (show wr.heap.size ≤ w1.heap.size by omega)).below hW |>.mono hW.size) hxo (((dr.mono (show w.heap.size ≤ wr.heap.size by omega)).below hBr |>.mono (show wr.heap.size ≤ w1.heap.size by omega)).below hW |>.mono hW.size)
          rw [HLK.out] at h1
          exact h1)
        clear hRt dr d0 d1 d2
        have s1 : (k : Int) ≤ c := by omega
        have s2 : k ≤ c := by omega
        go_cut [21] (fun v wx => ∃ bb : Bool, v = .bool (!bb) ∧ Hid (bb = true ↔ RightP (es.take k) x) ∧ Below w1.heap.size w1 wx)
        case first =>
          go_region_with (go_at_call 161; refine (hCl.out _ (below_drewN (Below.refl _ _) _)).mono ?_; rintro r w' ⟨bb, rfl, hbb, hBc⟩)
          all_goals go_wp2_with fail
          all_goals go_meet
          all_goals refine ⟨bb, rfl, Lib.hid hbb, ?_⟩
          all_goals first
            | exact (below_drewN (Below.refl _ _) _).trans (hBc.mono (Nat.le_refl _))
            | exact below_drewN ((below_drewN (Below.refl _ _) _).trans (hBc.mono (Nat.le_refl _))) _
        case rest =>
          obtain ⟨bb, rfl, hbb, hBc⟩ := hcut
          have hB2 : Below w.heap.size w wc := hBx.trans (hBc.mono (by omega))
          clear hBc hBr k0 k1 k2 hBx hCl
          cases bb with
          | true =>
            have HR := Lib.hid (hbb.out.1 rfl)
            go_wp2
            go_roundw
            case rel =>
              refine ⟨k + 1, by go_num, by omega, Lib.hid (fun j hj => ?_), hB2⟩
              by_cases e : j = k
              · subst e; rw [← HX.out]; exact HR.out
              · exact hok.out j (by omega)
            case measure => simp [intOf]; omega
          | false =>
            have hno : Hid (¬ RightP (es.take k) x) := Lib.hid (fun h => by have := hbb.out.2 h; cases this)
            go_wp2
            go_ret2
            exact ⟨k, 3, rfl, .inr (.inl ⟨by omega, k, hlt, rfl, rfl, hok.out, by rw [← HX.out]; exact hno.out⟩), hB2⟩
      · obtain rfl : k = es.length := by omega
        go_wp2
        go_ret2
        exact ⟨0, 0, rfl, .inr (.inr ⟨by omega, rfl, rfl, hok.out⟩), hB⟩
end Go.Proofs.YtmalmijdjhkklaaGreat
end

section
/- The known primes' rows are right: reckoned. -/
namespace Go.Proofs.YtmalmijdjhkklaaGreat

/-- A power modulo m, by halves. -/
def powm : Nat → Nat → Nat → Nat → Nat
  | 0, _, _, m => 1 % m
  | f + 1, a, e, m => if e = 0 then 1 % m else (if e % 2 = 1 then a * powm f (a * a % m) (e / 2) m % m else powm f (a * a % m) (e / 2) m)
theorem powm_eq (f : Nat) : ∀ a e m : Nat, e < 2 ^ f → powm f a e m = a ^ e % m := by
  induction f with
  | zero => intro a e m h; have : e = 0 := by simpa using h
            subst this; simp [powm]
  | succ f ih =>
    intro a e m h
    have hm : ∀ k : Nat, (a * a % m) ^ k % m = (a * a) ^ k % m := fun k => (Nat.pow_mod (a * a) k m).symm ▸ rfl
    unfold powm
    by_cases he : e = 0
    · rw [if_pos he, he]; simp
    · rw [if_neg he, ih _ _ _ (by rw [Nat.pow_succ] at h; omega), hm]
      have hs : a ^ e = (a * a) ^ (e / 2) * a ^ (e % 2) := by
        conv => lhs; rw [← Nat.div_add_mod e 2]
        rw [Nat.pow_add, Nat.pow_mul, Nat.pow_two]
      by_cases ho : e % 2 = 1
      · rw [if_pos ho, hs, ho, Nat.pow_one, Nat.mul_mod, Nat.mod_mod, ← Nat.mul_mod, Nat.mul_comm]
      · rw [if_neg ho, hs, show e % 2 = 0 by omega]; simp
theorem powm_int {g p : Int} (k : Nat) (hg : 0 ≤ g) (hp : 0 ≤ p) (hk : k < 2 ^ 64) : g ^ k % p = ((powm 64 g.toNat k p.toNat : Nat) : Int) := by
  rw [powm_eq 64 _ _ _ hk]
  obtain ⟨a, rfl⟩ := Int.eq_ofNat_of_zero_le hg
  obtain ⟨b, rfl⟩ := Int.eq_ofNat_of_zero_le hp
  simp

def wholeB (ahead : List Ent) (e : Ent) : Bool :=
  decide (1 ≤ e.fs.length) && decide (e.fs.length ≤ 16) && decide ((e.fs.getD 0 (0, 0)).1 = 2) &&
  (List.range e.fs.length).all (fun k => decide (1 ≤ (e.fs.getD k (0, 0)).2) && decide ((e.fs.getD k (0, 0)).2 ≤ 62)) &&
  (List.range (e.fs.length - 1)).all (fun k => decide ((e.fs.getD k (0, 0)).1 < (e.fs.getD (k + 1) (0, 0)).1) && ahead.any (fun x => x.p == (e.fs.getD (k + 1) (0, 0)).1)) &&
  decide (prodI e.fs = e.p - 1)
theorem wholeB_ok {ahead : List Ent} {e : Ent} (h : wholeB ahead e = true) : WholeP ahead e := by
  simp only [wholeB, Bool.and_eq_true, decide_eq_true_eq, List.all_eq_true, List.mem_range] at h
  obtain ⟨⟨⟨⟨⟨a, b⟩, c⟩, d⟩, f⟩, g⟩ := h
  exact ⟨a, b, c, d, fun k hk => f k (by omega), g⟩
def fullB (e : Ent) : Bool :=
  decide (powm 64 e.g.toNat (e.p - 1).toNat e.p.toNat = 1) && e.fs.all (fun x => decide (powm 64 e.g.toNat ((e.p - 1) / x.1).toNat e.p.toNat ≠ 1) && decide (1 ≤ x.1))
theorem fullB_ok {e : Ent} (hp : 3 ≤ e.p) (hpm : e.p < 9223372036854775808) (hg : 0 ≤ e.g) (h : fullB e = true) : FullP e := by
  simp only [fullB, Bool.and_eq_true, decide_eq_true_eq, List.all_eq_true] at h
  refine ⟨?_, fun x hx => ?_⟩
  · rw [powm_int _ hg (by omega) (by omega), h.1]; rfl
  · have := h.2 x hx
    have h1 : (e.p - 1) / x.1 ≤ e.p - 1 := Int.ediv_le_self _ (by omega)
    rw [powm_int _ hg (by omega) (by omega)]
    intro h2
    exact this.1 (by omega)
def rightB (ahead : List Ent) (e : Ent) : Bool :=
  decide (e.p % 2 = 1) && decide (3 ≤ e.p) && decide (e.p < 9223372036854775808) && decide (2 ≤ e.g) && decide (e.g < e.p) &&
  (decide (ahead.length = 0) || decide ((ahead.getD (ahead.length - 1) Ent.none).p < e.p)) && wholeB ahead e && fullB e
theorem rightB_ok {ahead : List Ent} {e : Ent} (h : rightB ahead e = true) : RightP ahead e := by
  simp only [rightB, Bool.and_eq_true, Bool.or_eq_true, decide_eq_true_eq] at h
  obtain ⟨⟨⟨⟨⟨⟨⟨a, b⟩, c⟩, d⟩, f⟩, g⟩, i⟩, j⟩ := h
  exact ⟨a, b, c, d, f, fun h0 => by rcases g with g | g <;> omega, wholeB_ok i, fullB_ok b c (by omega) j⟩
def allB (es : List Ent) : Bool := decide (es.length ≤ 32) && (List.range es.length).all (fun j => rightB (es.take j) (es.getD j Ent.none))
theorem allB_ok {es : List Ent} (h : allB es = true) : es.length ≤ 32 ∧ ∀ j, j < es.length → RightP (es.take j) (es.getD j Ent.none) := by
  simp only [allB, Bool.and_eq_true, decide_eq_true_eq, List.all_eq_true, List.mem_range] at h
  exact ⟨h.1, fun j hj => rightB_ok (h.2 j hj)⟩

def e3 : Ent := ⟨3, 2, [(2, 1)]⟩
def e5 : Ent := ⟨5, 2, [(2, 2)]⟩
def e7 : Ent := ⟨7, 3, [(2, 1), (3, 1)]⟩
def e29 : Ent := ⟨29, 2, [(2, 2), (7, 1)]⟩
def k0 : Ent := ⟨4179340454199820289, 3, [(2, 57), (29, 1)]⟩
def k1 : Ent := ⟨1945555039024054273, 5, [(2, 56), (3, 3)]⟩
def k2 : Ent := ⟨180143985094819841, 6, [(2, 55), (5, 1)]⟩
def k3 : Ent := ⟨754974721, 11, [(2, 24), (3, 2), (5, 1)]⟩
def k4 : Ent := ⟨469762049, 3, [(2, 26), (7, 1)]⟩
def k5 : Ent := ⟨167772161, 3, [(2, 25), (5, 1)]⟩
/-- The rows of the known primes. -/
def knownE (i : Int) : List Ent :=
  if i = 0 then [e3, e7, e29, k0] else if i = 1 then [e3, k1] else if i = 2 then [e5, k2] else if i = 3 then [e3, e5, k3] else if i = 4 then [e3, e7, k4] else if i = 5 then [e5, k5] else []
theorem right0 : allB [e3, e7, e29, k0] = true := by decide +kernel
theorem right1 : allB [e3, k1] = true := by decide +kernel
theorem right2 : allB [e5, k2] = true := by decide +kernel
theorem right3 : allB [e3, e5, k3] = true := by decide +kernel
theorem right4 : allB [e3, e7, k4] = true := by decide +kernel
theorem right5 : allB [e5, k5] = true := by decide +kernel
end Go.Proofs.YtmalmijdjhkklaaGreat
end

section
/- The document's rows: Claimed, Product. -/
namespace Go.Proofs.YtmalmijdjhkklaaGreat
open Go.RowKit

theorem r4claimed_any (A : Option Addr) (c : Nat) (q : Int) (es : List Ent) (w : World) (hl : es.length ≤ 140737488351232) (hR : RdE w w.heap.size A es) :
    Calls Tryz.prog 194 #[.slice A es.length c, .int .u64 q] w fun e w' => e = .returned (.bool (es.any (fun x => x.p == q))) ∧ Below w.heap.size w w' := by
  go_enter Tryz.func194, Tryz.ntmps194
  go_wp2
  go_loopw [9] (fun i wr => ∃ k : Nat, i = .int .i64 k ∧ k ≤ es.length ∧ Hid ((es.take k).any (fun x => x.p == q) = false) ∧ Below w.heap.size w wr) (fun i _ => es.length - (intOf i).toNat)
  case atStart => exact ⟨0, rfl, by omega, Lib.hid (by simp), Below.refl _ _⟩
  case round =>
    obtain ⟨k, rfl, hk, hn, hB⟩ := hrel
    by_cases hlt : k < es.length
    · obtain ⟨b, o, rfl, hbl, hc⟩ := hR (by omega)
      obtain ⟨A', c', hE⟩ := hc k hlt
      have g0 : wr.cell? ⟨b, o + k * 3, none⟩ = some (.int .u64 (es.getD k Ent.none).p) := cell_keep hB hbl hE.c0
      have g1 : wr.cell? ⟨b, o + k * 3 + 1, none⟩ = some (.int .u64 (es.getD k Ent.none).g) := cell_keep hB hbl hE.c1
      have g2 : wr.cell? ⟨b, o + k * 3 + 2, none⟩ = some (.slice A' (es.getD k Ent.none).fs.length c') := cell_keep hB hbl hE.c2
      obtain ⟨x, hx⟩ : ∃ x, x = es.getD k Ent.none := ⟨_, rfl⟩
      rw [← hx] at g0 g1 g2
      have htk : Hid ((es.take (k + 1)).any (fun x => x.p == q) = (x.p == q)) := Lib.hid (by
        rw [List.take_succ_eq_append_getElem hlt, List.any_append, hn.out, hx, List.getD_eq_getElem?_getD, List.getElem?_eq_getElem hlt]; simp)
      have hxm : Hid (x ∈ es) := Lib.hid (by
        rw [hx, List.getD_eq_getElem?_getD, List.getElem?_eq_getElem hlt]
        exact List.getElem_mem hlt)
      have hws : w.heap.size ≤ wr.heap.size := hB.size
      clear hx hc hR hE
      cases hpx : (x.p == q) with
      | true =>
        have HA : Hid (es.any (fun x => x.p == q) = true) := Lib.hid (List.any_eq_true.2 ⟨x, hxm.out, hpx⟩)
        go_wp2
        go_ret
        exact ⟨by rw [HA.out]; first | rfl | simp, hB.alloc hws _⟩
      | false =>
        have HT : Hid ((es.take (k + 1)).any (fun x => x.p == q) = false) := Lib.hid (by rw [htk.out, hpx])
        clear htk
        go_wp2
        go_roundw
        case rel => exact ⟨k + 1, by go_num, by omega, HT, hB.alloc hws _⟩
        case measure => simp [intOf]; omega
    · obtain rfl : k = es.length := by omega
      have hz := hn.out
      rw [List.take_length] at hz
      have HZ := Lib.hid hz
      clear hz hn
      go_wp2
      go_ret
      exact ⟨by rw [HZ.out]; first | rfl | simp, hB⟩

/-- Factors whose product is no greater than a bound. -/
structure ProdOk (fs : List (Int × Int)) (most : Int) : Prop where
  each : ∀ k, k < fs.length → 2 ≤ (fs.getD k (0, 0)).1 ∧ 1 ≤ (fs.getD k (0, 0)).2 ∧ (fs.getD k (0, 0)).2 ≤ 62
  le : prodI fs ≤ most
theorem ProdOk.part {fs : List (Int × Int)} {most : Int} (h : ProdOk fs most) (k i : Nat) (hk : k < fs.length) (hi : (i : Int) ≤ (fs.getD k (0, 0)).2) :
    prodI (fs.take k) * (fs.getD k (0, 0)).1 ^ i ≤ most := by
  have hp : ∀ x ∈ fs, 1 ≤ x.1 := fun x hx => by
    obtain ⟨j, hj, rfl⟩ := List.getElem_of_mem hx
    have := (h.each j hj).1
    simp only [List.getD_eq_getElem?_getD, List.getElem?_eq_getElem hj, Option.getD_some] at this
    omega
  refine Int.le_trans ?_ h.le
  have hs : fs = fs.take k ++ (fs.getD k (0, 0) :: fs.drop (k + 1)) := by
    have : fs.getD k (0, 0) = fs[k] := by simp [List.getD_eq_getElem?_getD, List.getElem?_eq_getElem hk]
    rw [this, ← List.drop_eq_getElem_cons hk, List.take_append_drop]
  have h1 : 1 ≤ prodI (fs.take k) := prodI_pos fun x hx => hp x (List.mem_of_mem_take hx)
  have h2 : 1 ≤ prodI (fs.drop (k + 1)) := prodI_pos fun x hx => hp x (List.mem_of_mem_drop hx)
  have hq := (h.each k hk).1
  generalize fs.getD k (0, 0) = x at *
  conv => rhs; rw [hs]
  rw [prodI_append, prodI]
  have h3 : x.1 ^ x.2.toNat = x.1 ^ i * x.1 ^ (x.2.toNat - i) := by rw [← Int.pow_add]; congr 1; omega
  have h4 : 0 < x.1 ^ (x.2.toNat - i) := Int.pow_pos (by omega)
  have h5 : 0 < x.1 ^ i := Int.pow_pos (by omega)
  rw [h3]
  have h6 : 1 * 1 ≤ x.1 ^ (x.2.toNat - i) * prodI (fs.drop (k + 1)) := Int.mul_le_mul (by omega) h2 (by omega) (by omega)
  have h7 : (prodI (fs.take k) * x.1 ^ i) * 1 ≤ (prodI (fs.take k) * x.1 ^ i) * (x.1 ^ (x.2.toNat - i) * prodI (fs.drop (k + 1))) :=
    Int.mul_le_mul_of_nonneg_left (by omega) (Int.mul_nonneg (by omega) (by omega))
  have h8 : (prodI (fs.take k) * x.1 ^ i) * (x.1 ^ (x.2.toNat - i) * prodI (fs.drop (k + 1))) = prodI (fs.take k) * (x.1 ^ i * x.1 ^ (x.2.toNat - i) * prodI (fs.drop (k + 1))) := by grind
  omega
/-- What Product answers. -/
def ProductP (fs : List (Int × Int)) (most : Int) (w : World) (r : Ending) (w' : World) : Prop :=
  Below w.heap.size w w' ∧ ((ProdOk fs most ∧ r = .returned (.tuple #[.int .u64 (prodI fs), .bool true])) ∨ (¬ ProdOk fs most ∧ r = .returned (.tuple #[.int .u64 0, .bool false])))

set_option maxHeartbeats 2000000 in
set_option maxRecDepth 100000 in
theorem r4product_any (A : Option Addr) (c : Nat) (most : Int) (fs : List (Int × Int)) (w : World) (hl : fs.length ≤ 140737488351232) (hm0 : 1 ≤ most) (hm1 : most ≤ 18446744073709551615) (hF : RdPI w w.heap.size A fs)
    (hE : ∀ x ∈ fs, 0 ≤ x.1 ∧ x.1 ≤ 18446744073709551615 ∧ -9223372036854775808 ≤ x.2 ∧ x.2 ≤ 9223372036854775807) :
    Calls Tryz.prog 195 #[.slice A fs.length c, .int .u64 most] w (ProductP fs most w) := by
  have HE := Lib.hid hE
  clear hE
  go_enter Tryz.func195, Tryz.ntmps195
  go_wp2
  go_loopw [6, 12] (fun N I wr => ∃ (k : Nat) (n : Int), N = .int .u64 n ∧ I = .int .i64 k ∧ k ≤ fs.length ∧ 1 ≤ n ∧ n ≤ most ∧ Hid (n = prodI (fs.take k)) ∧ Hid (∀ j, j < k → 2 ≤ (fs.getD j (0, 0)).1 ∧ 1 ≤ (fs.getD j (0, 0)).2 ∧ (fs.getD j (0, 0)).2 ≤ 62) ∧ Below w.heap.size w wr) (fun _ I _ => fs.length - (intOf I).toNat)
  case atStart => exact ⟨0, 1, rfl, rfl, by omega, by omega, hm0, Lib.hid rfl, Lib.hid (fun j hj => by omega), Below.refl _ _⟩
  case round =>
    obtain ⟨k, n, rfl, rfl, hk, n0, n1, hn, hok, hB⟩ := hrel
    by_cases hlt : k < fs.length
    · obtain ⟨b, o, rfl, hbl, hc⟩ := hF (by omega)
      obtain ⟨x, hx⟩ : ∃ x, x = fs.getD k (0, 0) := ⟨_, rfl⟩
      have g0 : wr.cell? ⟨b, o + k * 2, none⟩ = some (.int .u64 x.1) := by rw [hx]; exact cell_keep hB hbl (hc k hlt).1
      have g1 : wr.cell? ⟨b, o + k * 2 + 1, none⟩ = some (.int .i64 x.2) := by rw [hx]; exact cell_keep hB hbl (hc k hlt).2
      obtain ⟨q0, q1, e0, e1⟩ := HE.out x (by rw [hx, List.getD_eq_getElem?_getD, List.getElem?_eq_getElem hlt]; exact List.getElem_mem hlt)
      have HX := Lib.hid hx
      have hws : w.heap.size ≤ wr.heap.size := hB.size
      clear hx hc hF
      by_cases hgood : 1 ≤ x.2 ∧ x.2 ≤ 62 ∧ 2 ≤ x.1
      · obtain ⟨a1, a2, a3⟩ := hgood
        have t1 : decide (x.2 < 1) = false := by simp; omega
        have t2 : decide (62 < x.2) = false := by simp; omega
        have t3 : decide (x.1 < 2) = false := by simp; omega
        go_wp2
        have hBa := hB.alloc hws (.cells #[.int .u64 x.1, .int .i64 x.2] 152)
        have l0 : (wr.alloc (.cells #[.int .u64 x.1, .int .i64 x.2] 152)).cell? ⟨wr.heap.size, 0, none⟩ = some (.int .u64 x.1) := World.cell?_alloc_at _ _ _ _ rfl
        have l1 : (wr.alloc (.cells #[.int .u64 x.1, .int .i64 x.2] 152)).cell? ⟨wr.heap.size, 1, none⟩ = some (.int .i64 x.2) := World.cell?_alloc_at _ _ _ _ rfl
        generalize wr.alloc (.cells #[.int .u64 x.1, .int .i64 x.2] 152) = wa at *
        generalize wr.heap.size = Bx at *
        clear g0 g1 hB hws
        go_loopw [6, 9] (fun N I wi => ∃ (i : Nat) (n' : Int), N = .int .u64 n' ∧ I = .int .i64 i ∧ (i : Int) ≤ x.2 ∧ 1 ≤ n' ∧ n' ≤ most ∧ Hid (n' = prodI (fs.take k) * x.1 ^ i) ∧ wi = wa) (fun _ I _ => 63 - (intOf I).toNat)
        case atStart => exact ⟨0, n, rfl, rfl, by omega, n0, n1, Lib.hid (by rw [hn.out]; simp), rfl⟩
        case round =>
          obtain ⟨i, n', rfl, rfl, hi, m0, m1, hn', rfl⟩ := hrel
          by_cases hil : (i : Int) < x.2
          · obtain ⟨v, hv⟩ : ∃ v, most / x.1 = v := ⟨_, rfl⟩
            have tx : (x.1 == 0) = false := by simp; omega
            by_cases hbig : v < n'
            · have tb : decide (v < n') = true := by simp [hbig]
              have hno : Hid (¬ ProdOk fs most) := Lib.hid (fun h => by
                have h1 := h.part k (i + 1) hlt (by rw [← HX.out]; omega)
                rw [← HX.out, Int.pow_succ, ← Int.mul_assoc, ← hn'.out] at h1
                have h2 := (Int.le_ediv_iff_mul_le (show 0 < x.1 by omega)).2 h1
                omega)
              have HV := Lib.hid hbig
              clear hbig
              go_wp2
              go_ret2
              exact ⟨hBa, .inr ⟨hno.out, rfl⟩⟩
            · have tb : decide (v < n') = false := by simp; omega
              have h3 : n' * x.1 ≤ most := (Int.le_ediv_iff_mul_le (show 0 < x.1 by omega)).1 (by omega)
              have h4 : 1 * 1 ≤ n' * x.1 := Int.mul_le_mul m0 (by omega) (by omega) (by omega)
              have hnx : Hid (n' * x.1 = prodI (fs.take k) * x.1 ^ (i + 1)) := Lib.hid (by rw [hn'.out, Int.pow_succ, Int.mul_assoc])
              obtain ⟨y, hy⟩ : ∃ y, n' * x.1 = y := ⟨_, rfl⟩
              rw [hy] at h3 h4 hnx
              go_wp2
              go_roundw
              case rel => exact ⟨i + 1, y, by first | rfl | rw [hy], by go_num, by omega, by omega, h3, hnx, by trivial⟩
              case measure => simp [intOf]; omega
          · have hiE : (i : Int) = x.2 := by omega
            have hfin : Hid (n' = prodI (fs.take (k + 1))) := Lib.hid (by
              rw [hn'.out, prodI_take hlt, ← HX.out]
              congr 2
              omega)
            have hok2 : Hid (∀ j, j < k + 1 → 2 ≤ (fs.getD j (0, 0)).1 ∧ 1 ≤ (fs.getD j (0, 0)).2 ∧ (fs.getD j (0, 0)).2 ≤ 62) := Lib.hid (fun j hj => by
              by_cases e : j = k
              · rw [e, ← HX.out]; omega
              · exact hok.out j (by omega))
            clear hiE
            go_wp2
            go_roundw
            case rel => exact ⟨k + 1, n', by first | rfl | go_num, by go_num, by omega, m0, m1, hfin, hok2, hBa⟩
            case measure => simp [intOf]; omega
      · have hno : Hid (¬ ProdOk fs most) := Lib.hid (fun h => by have := h.each k hlt; rw [← HX.out] at this; omega)
        have t4 : decide (x.2 < 1) = true ∨ (decide (x.2 < 1) = false ∧ decide (62 < x.2) = true) ∨ (decide (x.2 < 1) = false ∧ decide (62 < x.2) = false ∧ decide (x.1 < 2) = true) := by
          by_cases h : x.2 < 1
          · exact .inl (by simpa using h)
          · by_cases h2 : 62 < x.2
            · exact .inr (.inl ⟨by simpa using h, by simpa using h2⟩)
            · exact .inr (.inr ⟨by simpa using h, by simpa using h2, by simp; omega⟩)
        clear hgood
        rcases t4 with t4 | ⟨t4, t5⟩ | ⟨t4, t5, t6⟩
        all_goals
          go_wp2
          go_ret2
          exact ⟨hB.alloc hws _, .inr ⟨hno.out, rfl⟩⟩
    · obtain rfl : k = fs.length := by omega
      have hn2 := hn.out
      rw [List.take_length] at hn2
      have HY : Hid (ProdOk fs most) := Lib.hid ⟨hok.out, by omega⟩
      have HN := Lib.hid hn2
      clear hn2 hF
      go_wp2
      go_ret2
      exact ⟨hB, .inl ⟨HY.out, by rw [← HN.out]; rfl⟩⟩
end Go.Proofs.YtmalmijdjhkklaaGreat
end
