/- Rows of entries that are read; slices.IndexFunc, ContainsFunc at entries; proof.claimed. -/
import Derived.Test.YtgdadkkiefkimaaGreatMont
import Derived.Deep.DeepCutAuto
import Derived.Deep.CutBlock
set_option linter.unusedVariables false
set_option linter.unusedSimpArgs false
set_option linter.unusedSectionVars false
section
/- Rows of entries that are read; slices.IndexFunc, ContainsFunc at entries; proof.claimed. -/
namespace Go.Proofs.YtgdadkkiefkimaaGreat
open Go.RowKit

/-- A slice of powers that is read (any numbers). -/
def RdPI (w : World) (B : Nat) (A : Option Addr) (fs : List (Int × Int)) : Prop :=
  0 < fs.length → ∃ b o, A = some ⟨b, o, none⟩ ∧ b < B ∧ ∀ j, j < fs.length → w.cell? ⟨b, o + j * 2, none⟩ = some (.int .u64 (fs.getD j (0, 0)).1) ∧ w.cell? ⟨b, o + j * 2 + 1, none⟩ = some (.int .i64 (fs.getD j (0, 0)).2)
theorem RdPI.below {w w' : World} {B : Nat} {A : Option Addr} {fs : List (Int × Int)} (h : RdPI w B A fs) (hb : Below B w w') : RdPI w' B A fs := fun hl => by
  obtain ⟨b, o, e, hlt, hc⟩ := h hl
  exact ⟨b, o, e, hlt, fun j hj => ⟨cell_keep hb hlt (hc j hj).1, cell_keep hb hlt (hc j hj).2⟩⟩
theorem RdPI.mono {w : World} {B B' : Nat} {A : Option Addr} {fs : List (Int × Int)} (h : RdPI w B A fs) (hb : B ≤ B') : RdPI w B' A fs := fun hl => by
  obtain ⟨b, o, e, hlt, hc⟩ := h hl
  exact ⟨b, o, e, by omega, hc⟩
def upP (fs : List (Nat × Nat)) : List (Int × Int) := fs.map fun x => ((x.1 : Int), (x.2 : Int))
theorem RdPow.toI {w : World} {B : Nat} {A : Option Addr} {fs : List (Nat × Nat)} (h : RdPow w B A fs) : RdPI w B A (upP fs) := fun hl => by
  obtain ⟨b, o, e, hlt, hc⟩ := h (by simpa [upP] using hl)
  refine ⟨b, o, e, hlt, fun j hj => ?_⟩
  have hj' : j < fs.length := by simpa [upP] using hj
  have hx := hc j hj'
  have e1 : (upP fs).getD j (0, 0) = (((fs.getD j (0, 0)).1 : Int), ((fs.getD j (0, 0)).2 : Int)) := by
    simp [upP, List.getD_eq_getElem?_getD, List.getElem?_eq_getElem hj']
  rw [e1]
  exact hx

/-- An entry, as numbers. -/
structure Ent where
  p : Int
  g : Int
  fs : List (Int × Int)
def Ent.none : Ent := ⟨0, 0, []⟩
/-- Three cells hold an entry. -/
structure EntAt (w : World) (B b o : Nat) (A : Option Addr) (c : Nat) (e : Ent) : Prop where
  c0 : w.cell? ⟨b, o, none⟩ = some (.int .u64 e.p)
  c1 : w.cell? ⟨b, o + 1, none⟩ = some (.int .u64 e.g)
  c2 : w.cell? ⟨b, o + 2, none⟩ = some (.slice A e.fs.length c)
  rd : RdPI w B A e.fs
/-- Bounds of an entry's numbers, which its types give. -/
structure EntOk (e : Ent) : Prop where
  p0 : 0 ≤ e.p
  p1 : e.p ≤ 18446744073709551615
  g0 : 0 ≤ e.g
  g1 : e.g ≤ 18446744073709551615
  len : e.fs.length ≤ 8796093022208
  q : ∀ x ∈ e.fs, 0 ≤ x.1 ∧ x.1 ≤ 18446744073709551615 ∧ -9223372036854775808 ≤ x.2 ∧ x.2 ≤ 9223372036854775807
/-- A slice of entries that is read. -/
def RdE (w : World) (B : Nat) (A : Option Addr) (es : List Ent) : Prop :=
  0 < es.length → ∃ b o, A = some ⟨b, o, none⟩ ∧ b < B ∧ ∀ j, j < es.length → ∃ A' c', EntAt w B b (o + j * 3) A' c' (es.getD j Ent.none)
theorem RdE.below {w w' : World} {B : Nat} {A : Option Addr} {es : List Ent} (h : RdE w B A es) (hb : Below B w w') : RdE w' B A es := fun hl => by
  obtain ⟨b, o, e, hlt, hc⟩ := h hl
  refine ⟨b, o, e, hlt, fun j hj => ?_⟩
  obtain ⟨A', c', k⟩ := hc j hj
  exact ⟨A', c', cell_keep hb hlt k.c0, cell_keep hb hlt k.c1, cell_keep hb hlt k.c2, k.rd.below hb⟩
theorem RdE.mono {w : World} {B B' : Nat} {A : Option Addr} {es : List Ent} (h : RdE w B A es) (hb : B ≤ B') : RdE w B' A es := fun hl => by
  obtain ⟨b, o, e, hlt, hc⟩ := h hl
  refine ⟨b, o, e, by omega, fun j hj => ?_⟩
  obtain ⟨A', c', k⟩ := hc j hj
  exact ⟨A', c', k.c0, k.c1, k.c2, k.rd.mono hb⟩
theorem RdE.take {w : World} {B : Nat} {A : Option Addr} {es : List Ent} (h : RdE w B A es) (n : Nat) : RdE w B A (es.take n) := fun hl => by
  have hl' : 0 < es.length := by simp at hl; omega
  obtain ⟨b, o, e, hlt, hc⟩ := h hl'
  refine ⟨b, o, e, hlt, fun j hj => ?_⟩
  rw [List.length_take] at hj
  obtain ⟨A', c', k⟩ := hc j (by omega)
  have : (es.take n).getD j Ent.none = es.getD j Ent.none := by simp [List.getD_eq_getElem?_getD, List.getElem?_take, show j < n by omega]
  rw [this]
  exact ⟨A', c', k⟩

theorem claimed1_any (p g q : Int) (sv : Value) (b1 : Nat) (w : World) (hq : w.cell? ⟨b1, 0, none⟩ = some (.int .u64 q)) :
    Calls Tryz.prog 197 #[.agg #[.int .u64 p, .int .u64 g, sv], .pointer (some ⟨b1, 0, none⟩)] w fun e w' => e = .returned (.bool (p == q)) ∧ Below w.heap.size w w' := by
  have hb1 := World.block_lt_of_cell? w _ hq
  go_enter Tryz.func197, Tryz.ntmps197
  go_wp2
  go_ret
  exact ⟨rfl, (Below.refl _ _).alloc (Nat.le_refl _) _⟩

set_option maxHeartbeats 1000000 in
theorem indexEnt_any (A : Option Addr) (c b1 : Nat) (q : Int) (es : List Ent) (w : World) (hl : es.length ≤ 140737488351232) (hR : RdE w w.heap.size A es) (hq : w.cell? ⟨b1, 0, none⟩ = some (.int .u64 q)) :
    Calls Tryz.prog 204 #[.slice A es.length c, .func (.func 197) #[] #[.pointer (some ⟨b1, 0, none⟩)]] w fun e w' => ∃ i : Int, e = .returned (.int .i64 i) ∧ (0 ≤ i ↔ es.any (fun x => x.p == q) = true) ∧ -1 ≤ i ∧ Below w.heap.size w w' := by
  have hb1 := World.block_lt_of_cell? w _ hq
  go_enter Tryz.func204, Tryz.ntmps204
  go_wp2
  go_loopw [5, 8] (fun _ i wr => ∃ k : Nat, i = .int .i64 k ∧ k ≤ es.length ∧ Hid ((es.take k).any (fun x => x.p == q) = false) ∧ Below w.heap.size w wr) (fun _ i _ => es.length - (intOf i).toNat)
  case atStart => exact ⟨0, rfl, by omega, Lib.hid (by simp), Below.refl _ _⟩
  case round =>
    obtain ⟨k, rfl, hk, hn, hB⟩ := hrel
    by_cases hlt : k < es.length
    · obtain ⟨b, o, rfl, hbl, hc⟩ := (hR.below hB) (by omega)
      obtain ⟨A', c', hE⟩ := hc k hlt
      have g0 := hE.c0
      have g1 := hE.c1
      have g2 := hE.c2
      have cq := cell_keep hB hb1 hq
      obtain ⟨x, hx⟩ : ∃ x, x = es.getD k Ent.none := ⟨_, rfl⟩
      rw [← hx] at g0 g1 g2
      have HX := Lib.hid hx
      have hxm : x ∈ es := by
        rw [hx, List.getD_eq_getElem?_getD, List.getElem?_eq_getElem hlt]
        exact List.getElem_mem hlt
      have htk : Hid ((es.take (k + 1)).any (fun x => x.p == q) = (x.p == q)) := Lib.hid (by
        rw [List.take_succ_eq_append_getElem hlt, List.any_append, hn.out, hx, List.getD_eq_getElem?_getD, List.getElem?_eq_getElem hlt]; simp)
      clear hx hc hR hE
      by_cases hpx : x.p = q
      · have t : (x.p == q) = true := by simp [hpx]
        have HA : Hid (es.any (fun x => x.p == q) = true) := Lib.hid (List.any_eq_true.2 ⟨x, hxm, t⟩)
        have T := Lib.hid t
        clear hpx t
        go_wp2_with fail
        refine (claimed1_any x.p x.g q (.slice A' x.fs.length c') b1 _ cq).mono ?_
        rintro e w2 ⟨rfl, hB2⟩
        rw [T.out]
        have hB3 : Below w.heap.size w w2 := hB.trans (hB2.mono hB.size)
        go_wp2
        go_ret
        exact ⟨k, rfl, by simp [HA.out], by omega, hB3⟩
      · have t : (x.p == q) = false := by simp [hpx]
        have HT : Hid ((es.take (k + 1)).any (fun x => x.p == q) = false) := Lib.hid (by rw [htk.out, t])
        have T := Lib.hid t
        clear hpx t htk
        go_wp2_with fail
        refine (claimed1_any x.p x.g q (.slice A' x.fs.length c') b1 _ cq).mono ?_
        rintro e w2 ⟨rfl, hB2⟩
        rw [T.out]
        have hB3 : Below w.heap.size w w2 := hB.trans (hB2.mono hB.size)
        go_wp2
        go_roundw
        case rel => exact ⟨k + 1, by go_num, by omega, HT, hB3⟩
        case measure => simp [intOf]; omega
    · obtain rfl : k = es.length := by omega
      have hz := hn.out
      rw [List.take_length] at hz
      have HZ := Lib.hid hz
      clear hz hn
      go_wp2
      go_ret
      exact ⟨-1, rfl, by simp [HZ.out], by omega, hB⟩

theorem contEnt_any (A : Option Addr) (c b1 : Nat) (q : Int) (es : List Ent) (w : World) (hl : es.length ≤ 140737488351232) (hR : RdE w w.heap.size A es) (hq : w.cell? ⟨b1, 0, none⟩ = some (.int .u64 q)) :
    Calls Tryz.prog 196 #[.slice A es.length c, .func (.func 197) #[] #[.pointer (some ⟨b1, 0, none⟩)]] w fun e w' => e = .returned (.bool (es.any (fun x => x.p == q))) ∧ Below w.heap.size w w' := by
  have hI := Lib.hid (indexEnt_any A c b1 q es w hl hR hq)
  clear hR
  go_enter Tryz.func196, Tryz.ntmps196
  go_wp2_with fail
  refine hI.out.mono ?_
  rintro e w1 ⟨i, rfl, hi, hi1, hB⟩
  have H := Lib.hid hi
  clear hi
  go_wp2
  go_ret
  exact ⟨ret_bool (by rw [Bool.eq_iff_iff, ← H.out]; simp), hB⟩

theorem claimed_any (A : Option Addr) (c : Nat) (q : Int) (es : List Ent) (w : World) (hl : es.length ≤ 140737488351232) (hR : RdE w w.heap.size A es) :
    Calls Tryz.prog 182 #[.slice A es.length c, .int .u64 q] w fun e w' => e = .returned (.bool (es.any (fun x => x.p == q))) ∧ Below w.heap.size w w' := by
  have hB := (Below.refl w.heap.size w).alloc (Nat.le_refl _) (.cells #[.int .u64 q] 22)
  have hI := Lib.hid (contEnt_any A c w.heap.size q es (w.alloc (.cells #[.int .u64 q] 22)) hl ((hR.below hB).mono (by simp)) (World.cell?_alloc_at _ _ _ _ rfl))
  clear hR
  go_enter Tryz.func182, Tryz.ntmps182
  go_wp2_with fail
  refine hI.out.mono ?_
  rintro e w1 ⟨rfl, hB1⟩
  go_wp2
  go_ret
  exact ⟨rfl, hB.trans (hB1.mono (by simp))⟩
end Go.Proofs.YtgdadkkiefkimaaGreat
end

section
/- proof.full. -/
namespace Go.Proofs.YtgdadkkiefkimaaGreat
open Go.RowKit

theorem lft_one {m a : Int} (hm : 1 < m) (ho : m % 2 = 1) : lft m a = lft m 1 ↔ a % m = 1 := by
  constructor
  · intro h
    have h1 := lft_mul (a := a) (y := 1) hm ho
    rw [h, lft_mul hm ho, Int.mul_one, Int.mul_one] at h1
    rw [← h1, Int.emod_eq_of_lt (by omega) hm]
  · intro h
    exact lft_congr (by rw [h, Int.emod_eq_of_lt (by omega) hm])

/-- P - 1 is the least power of G that is 1. -/
structure FullP (e : Ent) : Prop where
  one : e.g ^ (e.p - 1).toNat % e.p = 1
  no : ∀ x ∈ e.fs, e.g ^ ((e.p - 1) / x.1).toNat % e.p ≠ 1

set_option maxHeartbeats 2000000 in
set_option maxRecDepth 100000 in
theorem full_any (AF : Option Addr) (cF : Nat) (e : Ent) (w : World) (hE : EntOk e) (hp3 : 3 ≤ e.p) (hpm : e.p < 9223372036854775808) (hpo : e.p % 2 = 1) (hq2 : ∀ x ∈ e.fs, 2 ≤ x.1) (hF : RdPI w w.heap.size AF e.fs) :
    Calls Tryz.prog 171 #[.agg #[.int .u64 e.p, .int .u64 e.g, .slice AF e.fs.length cF]] w fun r w' => ∃ b, r = .returned (.bool b) ∧ (b = true ↔ FullP e) ∧ Below w.heap.size w w' := by
  have hg0 := hE.g0
  have hg1 := hE.g1
  have hfl := hE.len
  have hB0 := (Below.refl w.heap.size w).alloc (Nat.le_refl _) (.cells #[.int .u64 e.p, .int .u64 e.g, .slice AF e.fs.length cF] 130)
  have HO := Lib.hid hpo
  clear hpo
  go_enter Tryz.func171, Tryz.ntmps171
  go_wp2_with fail
  refine (new_any e.p _ hp3 hpm HO.out).mono ?_
  rintro r w1 ⟨cx, t, o, s, rfl, hC, hcx, hB1⟩
  have k0 : (w.alloc (.cells #[.int .u64 e.p, .int .u64 e.g, .slice AF e.fs.length cF] 130)).cell? ⟨w.heap.size, 0, none⟩ = some (.int .u64 e.p) := World.cell?_alloc_at _ _ _ _ rfl
  have k1 : (w.alloc (.cells #[.int .u64 e.p, .int .u64 e.g, .slice AF e.fs.length cF] 130)).cell? ⟨w.heap.size, 1, none⟩ = some (.int .u64 e.g) := World.cell?_alloc_at _ _ _ _ rfl
  have k2 : (w.alloc (.cells #[.int .u64 e.p, .int .u64 e.g, .slice AF e.fs.length cF] 130)).cell? ⟨w.heap.size, 2, none⟩ = some (.slice AF e.fs.length cF) := World.cell?_alloc_at _ _ _ _ rfl
  have hs0 : w.heap.size + 1 ≤ (w.alloc (.cells #[.int .u64 e.p, .int .u64 e.g, .slice AF e.fs.length cF] 130)).heap.size := by simp
  have hs1 := hB1.size
  have k0 := cell_keep hB1 (by omega) k0
  have k1 := cell_keep hB1 (by omega) k1
  have k2 := cell_keep hB1 (by omega) k2
  have hB : Below w.heap.size w w1 := hB0.trans (hB1.mono (by omega))
  have hF1 := hF.below hB
  have hcl := hC.lt
  have hsz : w.heap.size + 1 ≤ w1.heap.size := by omega
  clear hB0 hB1 hF hs0 hs1 hcx
  go_wp2_with fail
  refine (in_any hC e.g hg0 hg1).mono ?_
  rintro r w2 ⟨rfl, n1, rfl⟩
  obtain ⟨L, hL⟩ : ∃ L, L = lft e.p e.g := ⟨_, rfl⟩
  rw [← hL]
  have HL := Lib.hid hL
  clear hL
  go_wp2_with fail
  rw [HL.out]
  refine (mpow_any (hC.drewN n1) e.g (e.p - 1) (by omega) (by omega)).mono ?_
  rintro r w2 ⟨rfl, n2, rfl⟩
  rw [← HL.out]
  obtain ⟨y, hy⟩ : ∃ y, y = lft e.p (e.g ^ (e.p - 1).toNat) := ⟨_, rfl⟩
  rw [← hy]
  have HY := Lib.hid hy
  clear hy
  go_wp2_with fail
  refine (one_any (hC.drewN _)).mono ?_
  rintro r w2 ⟨rfl, n3, rfl⟩
  obtain ⟨u, hu⟩ : ∃ u, u = lft e.p 1 := ⟨_, rfl⟩
  rw [← hu]
  have HU := Lib.hid hu
  clear hu
  by_cases h1 : e.g ^ (e.p - 1).toNat % e.p = 1
  · have t1 : (y != u) = false := by rw [HY.out, HU.out, (lft_one (by omega) HO.out).2 h1]; simp
    have H1 := Lib.hid h1
    clear h1
    go_wp2
    go_loopw [30] (fun I wr => ∃ k : Nat, I = .int .i64 k ∧ k ≤ e.fs.length ∧ Hid (∀ x ∈ e.fs.take k, e.g ^ ((e.p - 1) / x.1).toNat % e.p ≠ 1) ∧ Below w1.heap.size w1 wr) (fun I _ => e.fs.length - (intOf I).toNat)
    case atStart => exact ⟨0, rfl, by omega, Lib.hid (by simp), by first | exact below_drewN (Below.refl _ _) _ | exact below_drewN (below_drewN (Below.refl _ _) _) _⟩
    case round =>
      clear t1
      obtain ⟨k, rfl, hk, hno, hBr⟩ := hrel
      have hCr := hC.below hBr hcl
      have j0 := cell_keep hBr (by omega) k0
      have hlt2 : w.heap.size < wr.heap.size := by have := hBr.size; omega
      have j0x : (wr.alloc (.cells #[.int .u64 (e.fs.getD k (0, 0)).1, .int .i64 (e.fs.getD k (0, 0)).2] 170)).cell? ⟨w.heap.size, 0, none⟩ = some (.int .u64 e.p) := (World.cell?_alloc_past _ _ _ hlt2).trans j0
      have hF2 := (hF1.mono (show w.heap.size ≤ w1.heap.size by omega)).below hBr
      by_cases hlt : k < e.fs.length
      · obtain ⟨b, o', rfl, hb, hc⟩ := hF2 (by omega)
        have d0 := (hc k hlt).1
        have d1 := (hc k hlt).2
        obtain ⟨x, hx⟩ : ∃ x, x = e.fs.getD k (0, 0) := ⟨_, rfl⟩
        rw [← hx] at d0 d1 j0x
        have hxm : x ∈ e.fs := by rw [hx, List.getD_eq_getElem?_getD, List.getElem?_eq_getElem hlt]; exact List.getElem_mem hlt
        have hx2 := hq2 x hxm
        have htk : Hid (e.fs.take (k + 1) = e.fs.take k ++ [x]) := Lib.hid (by
          rw [List.take_succ_eq_append_getElem hlt, hx, List.getD_eq_getElem?_getD, List.getElem?_eq_getElem hlt]; rfl)
        have hd0 : 0 ≤ (e.p - 1) / x.1 := Int.ediv_nonneg (by omega) (by omega)
        have hd1 : (e.p - 1) / x.1 ≤ e.p - 1 := Int.ediv_le_self _ (by omega)
        have hz : (x.1 == 0) = false := beq_eq_false_iff_ne.2 (by omega)
        have hBx := hBr.alloc hBr.size (.cells #[.int .u64 x.1, .int .i64 x.2] 170)
        have hCx := hC.below hBx hcl
        clear hc hF2 hF1 hx
        go_wp2_with fail
        rw [HL.out]
        refine (mpow_any hCx e.g ((e.p - 1) / x.1) hd0 (by omega)).mono ?_
        rintro r w3 ⟨rfl, n4, rfl⟩
        rw [← HL.out]
        obtain ⟨v, hv⟩ : ∃ v, v = lft e.p (e.g ^ ((e.p - 1) / x.1).toNat) := ⟨_, rfl⟩
        rw [← hv]
        have HV := Lib.hid hv
        clear hv
        go_wp2_with fail
        refine (one_any (hCx.drewN _)).mono ?_
        rintro r w3 ⟨rfl, n5, rfl⟩
        rw [← HU.out]
        by_cases h2 : e.g ^ ((e.p - 1) / x.1).toNat % e.p = 1
        · have t2 : (v == u) = true := by rw [HV.out, HU.out, (lft_one (by omega) HO.out).2 h2]; simp
          have hnf : Hid (¬ FullP e) := Lib.hid (fun h => h.no x hxm h2)
          clear h2
          go_wp2
          go_ret
          refine ⟨false, rfl, by simp [hnf.out], hB.trans (Below.mono ?_ (show w.heap.size ≤ w1.heap.size by omega))⟩
          first | exact below_drewN hBx _ | exact below_drewN (below_drewN hBx _) _
        · have t2 : (v == u) = false := by
            rw [beq_eq_false_iff_ne, HV.out, HU.out]; exact fun h => h2 ((lft_one (by omega) HO.out).1 h)
          have hn2 : Hid (∀ z ∈ e.fs.take (k + 1), e.g ^ ((e.p - 1) / z.1).toNat % e.p ≠ 1) := Lib.hid (by
            rw [htk.out]
            intro z hz
            rcases List.mem_append.1 hz with hz | hz
            · exact hno.out z hz
            · simp only [List.mem_singleton] at hz; subst hz; exact h2)
          clear h2
          go_wp2
          go_roundw
          case rel => exact ⟨k + 1, by go_num, by omega, hn2, by first | exact below_drewN hBx _ | exact below_drewN (below_drewN hBx _) _⟩
          case measure => simp [intOf]; omega
      · obtain rfl : k = e.fs.length := by omega
        have hall : Hid (FullP e) := Lib.hid ⟨H1.out, by have := hno.out; rw [List.take_length] at this; exact this⟩
        go_wp2
        go_ret
        exact ⟨true, rfl, by simp [hall.out], hB.trans (hBr.mono (by omega))⟩
  · have t1 : (y != u) = true := by
      rw [bne_iff_ne, HY.out, HU.out]; exact fun h => h1 ((lft_one (by omega) HO.out).1 h)
    have hno : Hid (¬ FullP e) := Lib.hid (fun h => h1 h.one)
    clear h1
    go_wp2
    go_ret
    exact ⟨false, rfl, by simp [hno.out], below_drewN hB _⟩
end Go.Proofs.YtgdadkkiefkimaaGreat
end
