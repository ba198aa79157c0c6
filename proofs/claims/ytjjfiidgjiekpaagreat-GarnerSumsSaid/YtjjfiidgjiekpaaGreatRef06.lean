/- The document's rows and fields: Check; Of. -/
import Derived.Test.YtjjfiidgjiekpaaGreatRef04R
import Derived.Test.YtjjfiidgjiekpaaGreatWContToRef05
import Derived.Test.YtjjfiidgjiekpaaGreatWRowSmall
set_option linter.unusedVariables false
set_option linter.unusedSimpArgs false
set_option linter.unusedSectionVars false
namespace Go.Proofs.YtjjfiidgjiekpaaGreat
open Go.RowKit
open Alg

set_option maxHeartbeats 1000000 in
theorem r4check_any (A : Option Addr) (c : Nat) (es : List Ent) (w : World) (hl : es.length ≤ 40) (hlc : es.length ≤ c) (hR : RdE w w.heap.size A es) (hE : ∀ e ∈ es, EntOk e) :
    Calls Tryz.prog 108 #[.slice A es.length c] w (CheckP es w) := by
  by_cases h32 : 32 < es.length
  · have t1 : decide ((32 : Int) < es.length) = true := by simp; omega
    have HC : Hid (CheckR es 0 13) := Lib.hid (.inl ⟨h32, rfl, rfl⟩)
    clear h32
    go_enter Tryz.func108, Tryz.ntmps108
    go_wp2
    go_ret2
    exact ⟨0, 13, rfl, HC.out, Below.refl _ _⟩
  · have t1 : decide ((32 : Int) < es.length) = false := by simp; omega
    have HE := Lib.hid hE
    clear hE
    go_enter Tryz.func108, Tryz.ntmps108
    go_wp2
    go_loopw [10] (fun I wr => ∃ k : Nat, I = .int .i64 k ∧ k ≤ es.length ∧ Hid (∀ j, j < k → RightP (es.take j) (es.getD j Ent.none)) ∧ Below w.heap.size w wr) (fun I _ => es.length - (intOf I).toNat)
    case atStart => exact ⟨0, rfl, by omega, Lib.hid (fun j hj => by omega), Below.refl _ _⟩
    case round =>
      obtain ⟨k, rfl, hk, hok, hB⟩ := hrel
      by_cases hlt : k < es.length
      · have hRr := (hR.below hB).mono hB.size
        have hCl := Lib.hid (r4right_any A c es k wr hl hlc hlt hRr HE.out)
        clear hRr
        go_wp2_with fail
        refine hCl.out.mono ?_
        rintro r w1 ⟨b, rfl, hb, hB1⟩
        have hB2 : Below w.heap.size w w1 := hB.trans (hB1.mono hB.size)
        have HB := Lib.hid hb
        clear hb hB1 hCl
        cases b with
        | true =>
          have hok2 : Hid (∀ j, j < k + 1 → RightP (es.take j) (es.getD j Ent.none)) := Lib.hid (fun j hj => by
            by_cases e : j = k
            · subst e; exact HB.out.1 rfl
            · exact hok.out j (by omega))
          go_wp2
          go_roundw
          case rel => exact ⟨k + 1, by go_num, by omega, hok2, hB2⟩
          case measure => simp [intOf]; omega
        | false =>
          have hno : Hid (CheckR es k 3) := Lib.hid (.inr (.inl ⟨by omega, k, hlt, rfl, rfl, hok.out, fun h => by have := HB.out.2 h; cases this⟩))
          go_wp2
          go_ret2
          exact ⟨k, 3, rfl, hno.out, hB2⟩
      · obtain rfl : k = es.length := by omega
        have hy : Hid (CheckR es 0 0) := Lib.hid (.inr (.inr ⟨by omega, rfl, rfl, hok.out⟩))
        go_wp2
        go_ret2
        exact ⟨0, 0, rfl, hy.out, hB⟩

/-- What Of answers. -/
def OfR (kind kk p : Int) (es : List Ent) (p' g' : Int) : Prop :=
  (kind = 0 → (OddP p ∧ p' = p ∧ ∃ g : Nat, IsGen p.toNat g ∧ g' = g) ∨ (¬ OddP p ∧ p' = 0 ∧ g' = 0)) ∧
  (kind = 1 → p' = (knownPG kk).1 ∧ g' = (knownPG kk).2) ∧
  (kind ≠ 0 → kind ≠ 1 → (es.length ≤ 40 ∧ AllRight es ∧ p' = p ∧ FirstE es p g') ∨ ((40 < es.length ∨ ¬ AllRight es ∨ ∀ e ∈ es, e.p ≠ p) ∧ p' = 0 ∧ g' = 0))
def OfP (kind kk p : Int) (es : List Ent) (w : World) (r : Ending) (w' : World) : Prop :=
  ∃ p' g' er, r = .returned (.tuple #[.int .u64 p', .int .u64 g', .int .i64 er]) ∧ OfR kind kk p es p' g' ∧ Below w.heap.size w w'
theorem OfR.zero {kk p p' g' : Int} {es : List Ent} (h : (OddP p ∧ p' = p ∧ ∃ g : Nat, IsGen p.toNat g ∧ g' = g) ∨ (¬ OddP p ∧ p' = 0 ∧ g' = 0)) : OfR 0 kk p es p' g' := ⟨fun _ => h, fun h => by omega, fun h => absurd rfl h⟩
theorem OfR.one {kk p p' g' : Int} {es : List Ent} (h : p' = (knownPG kk).1 ∧ g' = (knownPG kk).2) : OfR 1 kk p es p' g' := ⟨fun h => by omega, fun _ => h, fun _ h => absurd rfl h⟩
theorem OfR.list {kind kk p p' g' : Int} {es : List Ent} (h0 : kind ≠ 0) (h1 : kind ≠ 1) (h : (es.length ≤ 40 ∧ AllRight es ∧ p' = p ∧ FirstE es p g') ∨ ((40 < es.length ∨ ¬ AllRight es ∨ ∀ e ∈ es, e.p ≠ p) ∧ p' = 0 ∧ g' = 0)) : OfR kind kk p es p' g' :=
  ⟨fun h => absurd h h0, fun h => absurd h h1, fun _ _ => h⟩

theorem isGen_ex {p : Nat} (hp : Prime p) (h3 : 3 ≤ p) : ∃ g, IsGen p g := by
  obtain ⟨r, r2, rp, hr⟩ := gen_bound hp h3
  clear rp
  induction r using Nat.strongRecOn with
  | _ r ih =>
    by_cases h : ∃ h, 2 ≤ h ∧ h < r ∧ GenOk p h
    · obtain ⟨k, a, b, c⟩ := h
      exact ih k b a c
    · exact ⟨r, r2, hr, fun k a b c => h ⟨k, a, b, c⟩⟩
theorem rgen_at {p g : Nat} (h3 : 3 ≤ p) (hp6 : p ≤ 65536) (hp : Prime p) (hg : IsGen p g) (w : World) :
    Calls Tryz.prog 107 #[.int .u64 p] w fun e w' => e = .returned (.int .u64 g) ∧ w' = w :=
  (rgen_any p w h3 hp6 hp).mono fun _ _ ⟨_, he, h, hw⟩ => ⟨by rw [he, h.unique hg], hw.symm⟩

set_option maxHeartbeats 1000000 in
theorem of_zero (A : Option Addr) (c : Nat) (kk p : Int) (es : List Ent) (w : World) (h0 : 0 ≤ p) (h1 : p ≤ 18446744073709551615) :
    Calls Tryz.prog 70 #[.agg #[.int .i64 0, .int .i64 kk, .int .u64 p, .slice A es.length c]] w (OfP 0 kk p es w) := by
  have hB := (Below.refl w.heap.size w).alloc (Nat.le_refl _) (.cells #[.int .i64 0, .int .i64 kk, .int .u64 p, .slice A es.length c] 25)
  by_cases ho : OddP p
  · have HO : Hid ((decide (2 < p) && decide (p ≤ 65536) && isP p.toNat) = true) := Lib.hid (by
      simp only [Bool.and_eq_true, decide_eq_true_eq, isP_true]; exact ⟨⟨ho.1, ho.2.1⟩, ho.2.2⟩)
    obtain ⟨n, rfl⟩ := Int.eq_ofNat_of_zero_le h0
    have hn3 : 3 ≤ n := by have := ho.1; omega
    have hn6 : n ≤ 65536 := by have := ho.2.1; omega
    have hpn : Prime n := by simpa using ho.2.2
    obtain ⟨g, hg⟩ := isGen_ex hpn hn3
    have hGn := fun w => rgen_at hn3 hn6 hpn hg w
    have HR : Hid (OfR 0 kk n es n g) := Lib.hid (.zero (.inl ⟨ho, rfl, g, by simpa using hg, rfl⟩))
    clear ho hg hpn
    go_enter Tryz.func70, Tryz.ntmps70
    go_wp2_with fail
    refine (rodd_any _ _ (by omega) (by omega)).mono ?_
    rintro r w1 ⟨rfl, rfl⟩
    rw [HO.out]
    go_wp2_with fail
    go_quiet ((go_at_call 107; exact Calls.quiet_of_same (hGn _)))
    go_wp2
    go_ret3
    exact ⟨n, g, 0, rfl, HR.out, below_drewN hB _⟩
  · have HO : Hid ((decide (2 < p) && decide (p ≤ 65536) && isP p.toNat) = false) := Lib.hid (by
      rw [Bool.eq_false_iff]; intro h; simp only [Bool.and_eq_true, decide_eq_true_eq, isP_true] at h; exact ho ⟨h.1.1, h.1.2, h.2⟩)
    have HR : Hid (OfR 0 kk p es 0 0) := Lib.hid (.zero (.inr ⟨ho, rfl, rfl⟩))
    clear ho
    go_enter Tryz.func70, Tryz.ntmps70
    go_wp2_with fail
    refine (rodd_any _ _ (by omega) (by omega)).mono ?_
    rintro r w1 ⟨rfl, rfl⟩
    rw [HO.out]
    go_wp2
    go_ret3
    exact ⟨0, 0, 1, rfl, HR.out, hB⟩

set_option maxHeartbeats 2000000 in
theorem of_one (A : Option Addr) (c : Nat) (kk p : Int) (es : List Ent) (w : World) (h0 : 0 ≤ p) (h1 : p ≤ 18446744073709551615) :
    Calls Tryz.prog 70 #[.agg #[.int .i64 1, .int .i64 kk, .int .u64 p, .slice A es.length c]] w (OfP 1 kk p es w) := by
  have hB := (Below.refl w.heap.size w).alloc (Nat.le_refl _) (.cells #[.int .i64 1, .int .i64 kk, .int .u64 p, .slice A es.length c] 25)
  by_cases hk : 0 ≤ kk ∧ kk ≤ 5
  · have HR : Hid (OfR 1 kk p es (knownPG kk).1 (knownPG kk).2) := Lib.hid (.one ⟨rfl, rfl⟩)
    rcases knownPG_in hk with rfl | rfl | rfl | rfl | rfl | rfl
    all_goals
      go_enter Tryz.func70, Tryz.ntmps70
      go_wp2
      go_quiet (fail)
      go_wp2
      go_ret3
      exact ⟨_, _, _, rfl, HR.out, below_drewN ((hB.alloc (by simp only [World.size_alloc]; omega) _).alloc (by simp only [World.size_alloc]; omega) _) _⟩
  · have hz : knownPG kk = (0, 0) := by
      unfold knownPG
      rw [if_neg (by omega), if_neg (by omega), if_neg (by omega), if_neg (by omega), if_neg (by omega), if_neg (by omega)]
    have HR : Hid (OfR 1 kk p es 0 0) := Lib.hid (.one (by rw [hz]; exact ⟨rfl, rfl⟩))
    have t : decide (kk < 0) = true ∨ (decide (kk < 0) = false ∧ decide (5 < kk) = true) := by
      by_cases a : kk < 0
      · exact .inl (by simpa using a)
      · exact .inr ⟨by simpa using a, by simp; omega⟩
    clear hk hz
    rcases t with t | ⟨t, t'⟩
    all_goals
      go_enter Tryz.func70, Tryz.ntmps70
      go_wp2
      go_ret3
      exact ⟨0, 0, 1, rfl, HR.out, hB⟩

set_option maxHeartbeats 2000000 in
set_option maxRecDepth 100000 in
theorem of_list (A : Option Addr) (c : Nat) (kind kk p : Int) (es : List Ent) (w : World) (k0 : kind ≠ 0) (k1 : kind ≠ 1) (h0 : 0 ≤ p) (h1 : p ≤ 18446744073709551615)
    (hlm : es.length ≤ 140737488351232) (hlc : es.length ≤ c) (hR : RdE w w.heap.size A es) (hE : ∀ e ∈ es, EntOk e) :
    Calls Tryz.prog 70 #[.agg #[.int .i64 kind, .int .i64 kk, .int .u64 p, .slice A es.length c]] w (OfP kind kk p es w) := by
  have t0 : (kind == 0) = false := by simp [k0]
  have t1 : (kind == 1) = false := by simp [k1]
  have K0 := Lib.hid k0
  have K1 := Lib.hid k1
  have HE := Lib.hid hE
  have hB := (Below.refl w.heap.size w).alloc (Nat.le_refl _) (.cells #[.int .i64 kind, .int .i64 kk, .int .u64 p, .slice A es.length c] 25)
  clear k0 k1 hE
  by_cases hl : es.length ≤ 40
  · have t2 : decide ((40 : Int) < es.length) = false := by simp; omega
    go_enter Tryz.func70, Tryz.ntmps70
    go_wp2
    have b2 : (w.alloc (.cells #[.int .i64 kind, .int .i64 kk, .int .u64 p, .slice A es.length c] 25)).cell? ⟨w.heap.size, 2, none⟩ = some (.int .u64 p) := World.cell?_alloc_at _ _ _ _ rfl
    have b3 : (w.alloc (.cells #[.int .i64 kind, .int .i64 kk, .int .u64 p, .slice A es.length c] 25)).cell? ⟨w.heap.size, 3, none⟩ = some (.slice A es.length c) := World.cell?_alloc_at _ _ _ _ rfl
    have hs1 : w.heap.size + 1 ≤ (w.alloc (.cells #[.int .i64 kind, .int .i64 kk, .int .u64 p, .slice A es.length c] 25)).heap.size := by simp
    generalize w.alloc (.cells #[.int .i64 kind, .int .i64 kk, .int .u64 p, .slice A es.length c] 25) = w1 at *
    have hR1 := (hR.below hB).mono (show w.heap.size ≤ w1.heap.size by omega)
    clear hR
    go_loopw [53] (fun I wr => ∃ k : Nat, I = .int .i64 k ∧ k ≤ es.length ∧ Below w1.heap.size w1 wr) (fun I _ => es.length - (intOf I).toNat)
    case atStart => exact ⟨0, rfl, by omega, Below.refl _ _⟩
    case round =>
      obtain ⟨k, rfl, hk, hBr⟩ := hrel
      have hws := hBr.size
      by_cases hlt : k < es.length
      · obtain ⟨b, o, rfl, hb, hc⟩ := hR1 (by omega)
        obtain ⟨A', c', hEl⟩ := hc k hlt
        have d0 : wr.cell? ⟨b, o + k * 3, none⟩ = some (.int .u64 (es.getD k Ent.none).p) := cell_keep hBr hb hEl.c0
        have d1 : wr.cell? ⟨b, o + k * 3 + 1, none⟩ = some (.int .u64 (es.getD k Ent.none).g) := cell_keep hBr hb hEl.c1
        have d2 : wr.cell? ⟨b, o + k * 3 + 2, none⟩ = some (.slice A' (es.getD k Ent.none).fs.length c') := cell_keep hBr hb hEl.c2
        obtain ⟨x, hx⟩ : ∃ x, x = es.getD k Ent.none := ⟨_, rfl⟩
        rw [← hx] at d0 d1 d2
        have HX := Lib.hid hx
        clear hx hEl hc hR1
        by_cases h20 : 20 < x.fs.length
        · have t3 : decide ((20 : Int) < x.fs.length) = true := by simp; omega
          have HR : Hid (OfR kind kk p es 0 0) := Lib.hid (.list K0.out K1.out (.inr ⟨.inr (.inl (fun h => by
            have h1 := (h.2 k hlt).whole.len2
            rw [← HX.out] at h1
            omega)), rfl, rfl⟩))
          clear h20
          go_wp2
          go_ret3
          exact ⟨0, 0, 3, rfl, HR.out, (hB.trans (hBr.mono (by omega))).alloc (by omega) _⟩
        · have t3 : decide ((20 : Int) < x.fs.length) = false := by simp; omega
          clear h20
          go_wp2
          go_roundw
          case rel => exact ⟨k + 1, by go_num, by omega, hBr.alloc hws _⟩
          case measure => simp [intOf]; omega
      · obtain rfl : k = es.length := by omega
        have e3 := cell_keep hBr (by omega) b3
        have e2 := cell_keep hBr (by omega) b2
        have hRr := (hR1.below hBr).mono hws
        have hBw := hB.trans (hBr.mono (show w.heap.size ≤ w1.heap.size by omega))
        clear hR1 b2 b3 hB hBr
        go_wp2_with fail
        refine (r4check_any A c es wr hl hlc hRr HE.out).mono ?_
        rintro r w2 ⟨i, er, rfl, hck, hB2⟩
        have i3 := cell_keep hB2 (by omega) e3
        have i2 := cell_keep hB2 (by omega) e2
        have hR2 := (hRr.below hB2).mono hB2.size
        have hBv := hBw.trans (hB2.mono (show w.heap.size ≤ wr.heap.size by omega))
        have hs2 := hB2.size
        have HC := Lib.hid hck
        clear hRr e3 e2 hBw hB2 hck
        by_cases her : er = 0
        · subst her
          have HA : Hid (AllRight es) := Lib.hid (by
            rcases HC.out with ⟨a, b, c⟩ | ⟨a, k, hk, b, c, d⟩ | ⟨a, b, c, d⟩
            · omega
            · omega
            · exact ⟨a, d⟩)
          clear HC
          go_wp2
          go_loopw [74] (fun I wr => ∃ k : Nat, I = .int .i64 k ∧ k ≤ es.length ∧ Hid (∀ j, j < k → (es.getD j Ent.none).p ≠ p) ∧ Below w2.heap.size w2 wr) (fun I _ => es.length - (intOf I).toNat)
          case atStart => exact ⟨0, rfl, by omega, Lib.hid (fun j hj => by omega), Below.refl _ _⟩
          case round =>
            obtain ⟨k, rfl, hk, hno, hBz⟩ := hrel
            have hwz := hBz.size
            have m2 := cell_keep hBz (by omega) i2
            by_cases hlt : k < es.length
            · obtain ⟨b, o, rfl, hb, hc⟩ := hR2 (by omega)
              obtain ⟨A', c', hEl⟩ := hc k hlt
              have d0 : wr.cell? ⟨b, o + k * 3, none⟩ = some (.int .u64 (es.getD k Ent.none).p) := cell_keep hBz hb hEl.c0
              have d1 : wr.cell? ⟨b, o + k * 3 + 1, none⟩ = some (.int .u64 (es.getD k Ent.none).g) := cell_keep hBz hb hEl.c1
              have d2 : wr.cell? ⟨b, o + k * 3 + 2, none⟩ = some (.slice A' (es.getD k Ent.none).fs.length c') := cell_keep hBz hb hEl.c2
              obtain ⟨x, hx⟩ : ∃ x, x = es.getD k Ent.none := ⟨_, rfl⟩
              rw [← hx] at d0 d1 d2
              have HX := Lib.hid hx
              have hBx := (hBv.trans (hBz.mono (by omega))).alloc (show w.heap.size ≤ wr.heap.size by omega) (.cells #[.int .u64 x.p, .int .u64 x.g, .slice A' x.fs.length c'] 148)
              have hBy := hBz.alloc hwz (.cells #[.int .u64 x.p, .int .u64 x.g, .slice A' x.fs.length c'] 148)
              have m2' : (wr.alloc (.cells #[.int .u64 x.p, .int .u64 x.g, .slice A' x.fs.length c'] 148)).cell? ⟨w.heap.size, 2, none⟩ = some (.int .u64 p) := (World.cell?_alloc_past _ _ _ (show w.heap.size < wr.heap.size by omega)).trans m2
              clear hx hEl hc hR2
              by_cases hxp : x.p = p
              · have t4 : (x.p == p) = true := by simp [hxp]
                have HR : Hid (OfR kind kk p es p x.g) := Lib.hid (.list K0.out K1.out (.inl ⟨hl, HA.out, rfl, k, hlt, by rw [← HX.out]; exact hxp, by rw [← HX.out], hno.out⟩))
                have HXP := Lib.hid hxp
                clear hxp
                go_wp2
                go_quiet (fail)
                go_wp2
                go_ret3
                exact ⟨x.p, x.g, 0, rfl, by rw [HXP.out]; exact HR.out, below_drewN hBx _⟩
              · have t4 : (x.p == p) = false := by simp [hxp]
                have hno2 : Hid (∀ j, j < k + 1 → (es.getD j Ent.none).p ≠ p) := Lib.hid (fun j hj => by
                  by_cases e : j = k
                  · subst e; rw [← HX.out]; exact hxp
                  · exact hno.out j (by omega))
                clear hxp
                go_wp2
                go_roundw
                case rel => exact ⟨k + 1, by go_num, by omega, hno2, hBy⟩
                case measure => simp [intOf]; omega
            · obtain rfl : k = es.length := by omega
              have HR : Hid (OfR kind kk p es 0 0) := Lib.hid (.list K0.out K1.out (.inr ⟨.inr (.inr (fun e he => by
                obtain ⟨j, hj, rfl⟩ := List.getElem_of_mem he
                have := hno.out j hj
                rwa [List.getD_eq_getElem?_getD, List.getElem?_eq_getElem hj, Option.getD_some] at this)), rfl, rfl⟩))
              have hBx := hBv.trans (hBz.mono (show w.heap.size ≤ w2.heap.size by omega))
              clear hR2 hno
              go_wp2
              go_ret3
              exact ⟨0, 0, 14, rfl, HR.out, hBx⟩
        · have t4 : (er != 0) = true := by simp [her]
          have HR : Hid (OfR kind kk p es 0 0) := Lib.hid (.list K0.out K1.out (.inr ⟨.inr (.inl (fun h => by
            rcases HC.out with ⟨a, b, c⟩ | ⟨a, k, hk, b, c, d, f⟩ | ⟨a, b, c, d⟩
            · have := h.1; omega
            · exact f (h.2 k hk)
            · exact her c)), rfl, rfl⟩))
          clear her HC hR2
          go_wp2
          go_ret3
          exact ⟨0, 0, er, rfl, HR.out, hBv⟩
  · have t2 : decide ((40 : Int) < es.length) = true := by simp; omega
    have HR : Hid (OfR kind kk p es 0 0) := Lib.hid (.list K0.out K1.out (.inr ⟨.inl (by omega), rfl, rfl⟩))
    clear hl hR
    go_enter Tryz.func70, Tryz.ntmps70
    go_wp2
    go_ret3
    exact ⟨0, 0, 13, rfl, HR.out, hB⟩

theorem of_any (A : Option Addr) (c : Nat) (kind kk p : Int) (es : List Ent) (w : World) (h0 : 0 ≤ p) (h1 : p ≤ 18446744073709551615)
    (hlm : es.length ≤ 140737488351232) (hlc : es.length ≤ c) (hR : RdE w w.heap.size A es) (hE : ∀ e ∈ es, EntOk e) :
    Calls Tryz.prog 70 #[.agg #[.int .i64 kind, .int .i64 kk, .int .u64 p, .slice A es.length c]] w (OfP kind kk p es w) := by
  by_cases k0 : kind = 0
  · subst k0; exact of_zero A c kk p es w h0 h1
  · by_cases k1 : kind = 1
    · subst k1; exact of_one A c kk p es w h0 h1
    · exact of_list A c kind kk p es w k0 k1 h0 h1 hlm hlc hR hE
end Go.Proofs.YtjjfiidgjiekpaaGreat
