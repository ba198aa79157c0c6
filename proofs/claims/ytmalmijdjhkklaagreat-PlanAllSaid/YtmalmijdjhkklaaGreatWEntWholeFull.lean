/- Rows of entries that are read; slices.IndexFunc, ContainsFunc at entries; proof.claimed. -/
import Derived.Test.YtmalmijdjhkklaaGreatWMontModB
import Derived.Deep.RegionWith
import Derived.Deep.DeepCutAuto
import Derived.Deep.CutBlock
set_option linter.unusedVariables false
set_option linter.unusedSimpArgs false
set_option linter.unusedSectionVars false
section
/- Rows of entries that are read; slices.IndexFunc, ContainsFunc at entries; proof.claimed. -/
namespace Go.Proofs.YtmalmijdjhkklaaGreat
open Go.RowKit

/-- A slice of powers that is read (any numbers). -/
def RdPI (w : World) (B : Nat) (A : Option Addr) (fs : List (Int × Int)) : Prop :=
  0 < fs.length → ∃ b o, A = some ⟨b, o, none⟩ ∧ b < B ∧ ∀ j, j < fs.length → w.cell? ⟨b, o + j * 2, none⟩ = some (.int .u64 (fs.getD j (0, 0)).1) ∧ w.cell? ⟨b, o + j * 2 + 1, none⟩ = some (.int .i64 (fs.getD j (0, 0)).2)
theorem RdPI.below {w w' : World} {B : Nat} {A : Option Addr} {fs : List (Int × Int)} (h : RdPI w B A fs) (hb : Below B w w') : RdPI w' B A fs := fun hl => by
  obtain ⟨b, o, e, hlt, hc⟩ := h hl
  exact ⟨b, o, e, hlt, fun j hj => ⟨cell_keep hb hlt (hc j hj).1, cell_keep hb hlt (hc j hj).2⟩⟩
theorem RdPI.mono {w : World} {B B' : Nat} {A : Option Addr} {fs : List (Int × Int)} (h : RdPI w B A fs) (hb : B ≤ B') : RdPI w B' A fs := fun hl => by
  obtain ⟨b, o, e, hlt, hc⟩ := h hl
  exact ⟨b, o, e, by omega, hc⟩
def upP (fs : List (Nat × Nat)) : List (Int × Int) := fs.map fun x => ((x.1 : Int), (x.2 : Int))
theorem RdPow.toI {w : World} {B : Nat} {A : Option Addr} {fs : List (Nat × Nat)} (h : RdPow w B A fs) : RdPI w B A (upP fs) := fun hl => by
  obtain ⟨b, o, e, hlt, hc⟩ := h (by simpa [upP] using hl)
  refine ⟨b, o, e, hlt, fun j hj => ?_⟩
  have hj' : j < fs.length := by simpa [upP] using hj
  have hx := hc j hj'
  have e1 : (upP fs).getD j (0, 0) = (((fs.getD j (0, 0)).1 : Int), ((fs.getD j (0, 0)).2 : Int)) := by
    simp [upP, List.getD_eq_getElem?_getD, List.getElem?_eq_getElem hj']
  rw [e1]
  exact hx

/-- An entry, as numbers. -/
structure Ent where
  p : Int
  g : Int
  fs : List (Int × Int)
def Ent.none : Ent := ⟨0, 0, []⟩
/-- Three cells hold an entry. -/
structure EntAt (w : World) (B b o : Nat) (A : Option Addr) (c : Nat) (e : Ent) : Prop where
  c0 : w.cell? ⟨b, o, none⟩ = some (.int .u64 e.p)
  c1 : w.cell? ⟨b, o + 1, none⟩ = some (.int .u64 e.g)
  c2 : w.cell? ⟨b, o + 2, none⟩ = some (.slice A e.fs.length c)
  rd : RdPI w B A e.fs
/-- Bounds of an entry's numbers, which its types give. -/
structure EntOk (e : Ent) : Prop where
  p0 : 0 ≤ e.p
  p1 : e.p ≤ 18446744073709551615
  g0 : 0 ≤ e.g
  g1 : e.g ≤ 18446744073709551615
  len : e.fs.length ≤ 8796093022208
  q : ∀ x ∈ e.fs, 0 ≤ x.1 ∧ x.1 ≤ 18446744073709551615 ∧ -9223372036854775808 ≤ x.2 ∧ x.2 ≤ 9223372036854775807
/-- A slice of entries that is read. -/
def RdE (w : World) (B : Nat) (A : Option Addr) (es : List Ent) : Prop :=
  0 < es.length → ∃ b o, A = some ⟨b, o, none⟩ ∧ b < B ∧ ∀ j, j < es.length → ∃ A' c', EntAt w B b (o + j * 3) A' c' (es.getD j Ent.none)
theorem RdE.below {w w' : World} {B : Nat} {A : Option Addr} {es : List Ent} (h : RdE w B A es) (hb : Below B w w') : RdE w' B A es := fun hl => by
  obtain ⟨b, o, e, hlt, hc⟩ := h hl
  refine ⟨b, o, e, hlt, fun j hj => ?_⟩
  obtain ⟨A', c', k⟩ := hc j hj
  exact ⟨A', c', cell_keep hb hlt k.c0, cell_keep hb hlt k.c1, cell_keep hb hlt k.c2, k.rd.below hb⟩
theorem RdE.mono {w : World} {B B' : Nat} {A : Option Addr} {es : List Ent} (h : RdE w B A es) (hb : B ≤ B') : RdE w B' A es := fun hl => by
  obtain ⟨b, o, e, hlt, hc⟩ := h hl
  refine ⟨b, o, e, by omega, fun j hj => ?_⟩
  obtain ⟨A', c', k⟩ := hc j hj
  exact ⟨A', c', k.c0, k.c1, k.c2, k.rd.mono hb⟩
theorem RdE.take {w : World} {B : Nat} {A : Option Addr} {es : List Ent} (h : RdE w B A es) (n : Nat) : RdE w B A (es.take n) := fun hl => by
  have hl' : 0 < es.length := by simp at hl; omega
  obtain ⟨b, o, e, hlt, hc⟩ := h hl'
  refine ⟨b, o, e, hlt, fun j hj => ?_⟩
  rw [List.length_take] at hj
  obtain ⟨A', c', k⟩ := hc j (by omega)
  have : (es.take n).getD j Ent.none = es.getD j Ent.none := by simp [List.getD_eq_getElem?_getD, List.getElem?_take, show j < n by omega]
  rw [this]
  exact ⟨A', c', k⟩

theorem claimed1_any (p g q : Int) (sv : Value) (b1 : Nat) (w : World) (hq : w.cell? ⟨b1, 0, none⟩ = some (.int .u64 q)) :
    Calls Tryz.prog 234 #[.agg #[.int .u64 p, .int .u64 g, sv], .pointer (some ⟨b1, 0, none⟩)] w fun e w' => e = .returned (.bool (p == q)) ∧ Below w.heap.size w w' := by
  have hb1 := World.block_lt_of_cell? w _ hq
  go_enter Tryz.func234, Tryz.ntmps234
  go_wp2
  go_ret
  exact ⟨rfl, (Below.refl _ _).alloc (Nat.le_refl _) _⟩

set_option maxHeartbeats 1000000 in
theorem indexEnt_any (A : Option Addr) (c b1 : Nat) (q : Int) (es : List Ent) (w : World) (hl : es.length ≤ 140737488351232) (hR : RdE w w.heap.size A es) (hq : w.cell? ⟨b1, 0, none⟩ = some (.int .u64 q)) :
    Calls Tryz.prog 244 #[.slice A es.length c, .func (.func 234) #[] #[.pointer (some ⟨b1, 0, none⟩)]] w fun e w' => ∃ i : Int, e = .returned (.int .i64 i) ∧ (0 ≤ i ↔ es.any (fun x => x.p == q) = true) ∧ -1 ≤ i ∧ Below w.heap.size w w' := by
  have hb1 := World.block_lt_of_cell? w _ hq
  go_enter Tryz.func244, Tryz.ntmps244
  go_wp2
  go_loopw [5, 8] (fun _ i wr => ∃ k : Nat, i = .int .i64 k ∧ k ≤ es.length ∧ Hid ((es.take k).any (fun x => x.p == q) = false) ∧ Below w.heap.size w wr) (fun _ i _ => es.length - (intOf i).toNat)
  case atStart => exact ⟨0, rfl, by omega, Lib.hid (by simp), Below.refl _ _⟩
  case round =>
    obtain ⟨k, rfl, hk, hn, hB⟩ := hrel
    by_cases hlt : k < es.length
    · obtain ⟨b, o, rfl, hbl, hc⟩ := (hR.below hB) (by omega)
      obtain ⟨A', c', hE⟩ := hc k hlt
      have g0 := hE.c0
      have g1 := hE.c1
      have g2 := hE.c2
      have cq := cell_keep hB hb1 hq
      obtain ⟨x, hx⟩ : ∃ x, x = es.getD k Ent.none := ⟨_, rfl⟩
      rw [← hx] at g0 g1 g2
      have HX := Lib.hid hx
      have hxm : x ∈ es := by
        rw [hx, List.getD_eq_getElem?_getD, List.getElem?_eq_getElem hlt]
        exact List.getElem_mem hlt
      have htk : Hid ((es.take (k + 1)).any (fun x => x.p == q) = (x.p == q)) := Lib.hid (by
        rw [List.take_succ_eq_append_getElem hlt, List.any_append, hn.out, hx, List.getD_eq_getElem?_getD, List.getElem?_eq_getElem hlt]; simp)
      clear hx hc hR hE
      by_cases hpx : x.p = q
      · have t : (x.p == q) = true := by simp [hpx]
        have HA : Hid (es.any (fun x => x.p == q) = true) := Lib.hid (List.any_eq_true.2 ⟨x, hxm, t⟩)
        have T := Lib.hid t
        clear hpx t
        go_wp2_with fail
        refine (claimed1_any x.p x.g q (.slice A' x.fs.length c') b1 _ cq).mono ?_
        rintro e w2 ⟨rfl, hB2⟩
        rw [T.out]
        have hB3 : Below w.heap.size w w2 := hB.trans (hB2.mono hB.size)
        go_wp2
        go_ret
        exact ⟨k, rfl, by simp [HA.out], by omega, hB3⟩
      · have t : (x.p == q) = false := by simp [hpx]
        have HT : Hid ((es.take (k + 1)).any (fun x => x.p == q) = false) := Lib.hid (by rw [htk.out, t])
        have T := Lib.hid t
        clear hpx t htk
        go_wp2_with fail
        refine (claimed1_any x.p x.g q (.slice A' x.fs.length c') b1 _ cq).mono ?_
        rintro e w2 ⟨rfl, hB2⟩
        rw [T.out]
        have hB3 : Below w.heap.size w w2 := hB.trans (hB2.mono hB.size)
        go_wp2
        go_roundw
        case rel => exact ⟨k + 1, by go_num, by omega, HT, hB3⟩
        case measure => simp [intOf]; omega
    · obtain rfl : k = es.length := by omega
      have hz := hn.out
      rw [List.take_length] at hz
      have HZ := Lib.hid hz
      clear hz hn
      go_wp2
      go_ret
      exact ⟨-1, rfl, by simp [HZ.out], by omega, hB⟩

theorem contEnt_any (A : Option Addr) (c b1 : Nat) (q : Int) (es : List Ent) (w : World) (hl : es.length ≤ 140737488351232) (hR : RdE w w.heap.size A es) (hq : w.cell? ⟨b1, 0, none⟩ = some (.int .u64 q)) :
    Calls Tryz.prog 233 #[.slice A es.length c, .func (.func 234) #[] #[.pointer (some ⟨b1, 0, none⟩)]] w fun e w' => e = .returned (.bool (es.any (fun x => x.p == q))) ∧ Below w.heap.size w w' := by
  have hI := Lib.hid (indexEnt_any A c b1 q es w hl hR hq)
  clear hR
  go_enter Tryz.func233, Tryz.ntmps233
  go_wp2_with fail
  refine hI.out.mono ?_
  rintro e w1 ⟨i, rfl, hi, hi1, hB⟩
  have H := Lib.hid hi
  clear hi
  go_wp2
  go_ret
  exact ⟨ret_bool (by rw [Bool.eq_iff_iff, ← H.out]; simp), hB⟩

theorem claimed_any (A : Option Addr) (c : Nat) (q : Int) (es : List Ent) (w : World) (hl : es.length ≤ 140737488351232) (hR : RdE w w.heap.size A es) :
    Calls Tryz.prog 215 #[.slice A es.length c, .int .u64 q] w fun e w' => e = .returned (.bool (es.any (fun x => x.p == q))) ∧ Below w.heap.size w w' := by
  have hB := (Below.refl w.heap.size w).alloc (Nat.le_refl _) (.cells #[.int .u64 q] 22)
  have hI := Lib.hid (contEnt_any A c w.heap.size q es (w.alloc (.cells #[.int .u64 q] 22)) hl ((hR.below hB).mono (by simp)) (World.cell?_alloc_at _ _ _ _ rfl))
  clear hR
  go_enter Tryz.func215, Tryz.ntmps215
  go_wp2_with fail
  refine hI.out.mono ?_
  rintro e w1 ⟨rfl, hB1⟩
  go_wp2
  go_ret
  exact ⟨rfl, hB.trans (hB1.mono (by simp))⟩
end Go.Proofs.YtmalmijdjhkklaaGreat
end

section
/- proof.whole. -/
namespace Go.Proofs.YtmalmijdjhkklaaGreat
open Go.RowKit

def prodI : List (Int × Int) → Int
  | [] => 1
  | x :: t => x.1 ^ x.2.toNat * prodI t
theorem prodI_append (a b : List (Int × Int)) : prodI (a ++ b) = prodI a * prodI b := by
  induction a with
  | nil => simp [prodI]
  | cons x t ih => simp [prodI, ih, Int.mul_assoc]
theorem prodI_pos {a : List (Int × Int)} (h : ∀ x ∈ a, 1 ≤ x.1) : 1 ≤ prodI a := by
  induction a with
  | nil => simp [prodI]
  | cons x t ih =>
    have h1 : 0 < x.1 ^ x.2.toNat := Int.pow_pos (by have := h x (by simp); omega)
    have h2 := ih fun y hy => h y (by simp [hy])
    have : 1 * 1 ≤ x.1 ^ x.2.toNat * prodI t := Int.mul_le_mul (by omega) h2 (by omega) (by omega)
    simpa [prodI] using this

/-- An entry's factors can be, and are all of P - 1. -/
structure WholeP (ahead : List Ent) (e : Ent) : Prop where
  len1 : 1 ≤ e.fs.length
  len2 : e.fs.length ≤ 16
  two : (e.fs.getD 0 (0, 0)).1 = 2
  each : ∀ k, k < e.fs.length → 1 ≤ (e.fs.getD k (0, 0)).2 ∧ (e.fs.getD k (0, 0)).2 ≤ 62
  rise : ∀ k, k + 1 < e.fs.length → (e.fs.getD k (0, 0)).1 < (e.fs.getD (k + 1) (0, 0)).1 ∧ ahead.any (fun x => x.p == (e.fs.getD (k + 1) (0, 0)).1) = true
  prod : prodI e.fs = e.p - 1
theorem WholeP.two_le {ahead : List Ent} {e : Ent} (h : WholeP ahead e) (k : Nat) (hk : k < e.fs.length) : 2 ≤ (e.fs.getD k (0, 0)).1 := by
  induction k with
  | zero => rw [h.two]; omega
  | succ k ih => have := ih (by omega); have := (h.rise k hk).1; omega
theorem WholeP.pos {ahead : List Ent} {e : Ent} (h : WholeP ahead e) : ∀ x ∈ e.fs, 1 ≤ x.1 := by
  intro x hx
  obtain ⟨k, hk, rfl⟩ := List.getElem_of_mem hx
  have := h.two_le k hk
  simp only [List.getD_eq_getElem?_getD, List.getElem?_eq_getElem hk, Option.getD_some] at this
  omega
/-- What has been multiplied is no greater than the whole. -/
theorem WholeP.part {ahead : List Ent} {e : Ent} (h : WholeP ahead e) (k i : Nat) (hk : k < e.fs.length) (hi : (i : Int) ≤ (e.fs.getD k (0, 0)).2) :
    prodI (e.fs.take k) * (e.fs.getD k (0, 0)).1 ^ i ≤ e.p - 1 := by
  rw [← h.prod]
  have hs : e.fs = e.fs.take k ++ (e.fs.getD k (0, 0) :: e.fs.drop (k + 1)) := by
    have : e.fs.getD k (0, 0) = e.fs[k] := by simp [List.getD_eq_getElem?_getD, List.getElem?_eq_getElem hk]
    rw [this, ← List.drop_eq_getElem_cons hk, List.take_append_drop]
  have h1 : 1 ≤ prodI (e.fs.take k) := prodI_pos fun x hx => h.pos x (List.mem_of_mem_take hx)
  have h2 : 1 ≤ prodI (e.fs.drop (k + 1)) := prodI_pos fun x hx => h.pos x (List.mem_of_mem_drop hx)
  have hq := h.two_le k hk
  generalize e.fs.getD k (0, 0) = x at *
  conv => rhs; rw [hs]
  rw [prodI_append, prodI]
  have h3 : x.1 ^ x.2.toNat = x.1 ^ i * x.1 ^ (x.2.toNat - i) := by rw [← Int.pow_add]; congr 1; omega
  have h4 : 0 < x.1 ^ (x.2.toNat - i) := Int.pow_pos (by omega)
  have h5 : 0 < x.1 ^ i := Int.pow_pos (by omega)
  rw [h3]
  have h6 : 1 * 1 ≤ x.1 ^ (x.2.toNat - i) * prodI (e.fs.drop (k + 1)) := Int.mul_le_mul (by omega) h2 (by omega) (by omega)
  have h7 : (prodI (e.fs.take k) * x.1 ^ i) * 1 ≤ (prodI (e.fs.take k) * x.1 ^ i) * (x.1 ^ (x.2.toNat - i) * prodI (e.fs.drop (k + 1))) :=
    Int.mul_le_mul_of_nonneg_left (by omega) (Int.mul_nonneg (by omega) (by omega))
  have h8 : (prodI (e.fs.take k) * x.1 ^ i) * (x.1 ^ (x.2.toNat - i) * prodI (e.fs.drop (k + 1))) = prodI (e.fs.take k) * (x.1 ^ i * x.1 ^ (x.2.toNat - i) * prodI (e.fs.drop (k + 1))) := by grind
  omega
theorem prodI_take {fs : List (Int × Int)} {k : Nat} (hk : k < fs.length) : prodI (fs.take (k + 1)) = prodI (fs.take k) * (fs.getD k (0, 0)).1 ^ (fs.getD k (0, 0)).2.toNat := by
  rw [List.take_succ_eq_append_getElem hk, prodI_append]
  simp [prodI, List.getD_eq_getElem?_getD, List.getElem?_eq_getElem hk]

set_option maxHeartbeats 4000000 in
set_option maxRecDepth 100000 in
theorem whole_any (A AF : Option Addr) (c cF : Nat) (ahead : List Ent) (e : Ent) (w : World) (hl : ahead.length ≤ 40) (hR : RdE w w.heap.size A ahead) (hE : EntOk e) (hp3 : 3 ≤ e.p) (hF : RdPI w w.heap.size AF e.fs) :
    Calls Tryz.prog 196 #[.slice A ahead.length c, .agg #[.int .u64 e.p, .int .u64 e.g, .slice AF e.fs.length cF]] w fun r w' => ∃ b, r = .returned (.bool b) ∧ (b = true ↔ WholeP ahead e) ∧ Below w.heap.size w w' := by
  have hp0 := hE.p0
  have hp1 := hE.p1
  have hfl := hE.len
  by_cases hl0 : e.fs.length = 0
  · have t : ((e.fs.length : Int) == 0) = true := by simp [hl0]
    have hno : Hid (¬ WholeP ahead e) := Lib.hid (fun h => by have := h.len1; omega)
    clear hl0
    go_enter Tryz.func196, Tryz.ntmps196
    go_wp2
    go_ret
    exact ⟨false, rfl, by simp [hno.out], (Below.refl _ _).alloc (Nat.le_refl _) _⟩
  · have t1 : ((e.fs.length : Int) == 0) = false := beq_eq_false_iff_ne.2 (by omega)
    obtain ⟨bF, oF, rfl, hbF, hc⟩ := hF (by omega)
    by_cases hl2 : 16 < e.fs.length
    · have hno : Hid (¬ WholeP ahead e) := Lib.hid (fun h => by have := h.len2; omega)
      have t2 : decide ((16 : Int) < e.fs.length) = true := by simp; omega
      clear hc hF
      go_enter Tryz.func196, Tryz.ntmps196
      go_wp2
      go_ret
      exact ⟨false, rfl, by simp [hno.out], (Below.refl _ _).alloc (Nat.le_refl _) _⟩
    · have t2 : decide ((16 : Int) < e.fs.length) = false := by simp; omega
      have hc0 := (hc 0 (by omega)).1
      rw [Nat.zero_mul, Nat.add_zero] at hc0
      obtain ⟨x0, hx0⟩ : ∃ x, x = (e.fs.getD 0 (0, 0)).1 := ⟨_, rfl⟩
      rw [← hx0] at hc0
      have HX0 := Lib.hid hx0
      clear hx0
      by_cases h2 : x0 = 2
      · have t3 : (x0 != 2) = false := by simp [h2]
        have H2 := Lib.hid h2
        clear h2 hF
        go_enter Tryz.func196, Tryz.ntmps196
        go_wp2
        have hB0 := (Below.refl w.heap.size w).alloc (Nat.le_refl _) (.cells #[.int .u64 e.p, .int .u64 e.g, .slice (some ⟨bF, oF, none⟩) e.fs.length cF] 115)
        have k0 : (w.alloc (.cells #[.int .u64 e.p, .int .u64 e.g, .slice (some ⟨bF, oF, none⟩) e.fs.length cF] 115)).cell? ⟨w.heap.size, 0, none⟩ = some (.int .u64 e.p) := World.cell?_alloc_at _ _ _ _ rfl
        have k2 : (w.alloc (.cells #[.int .u64 e.p, .int .u64 e.g, .slice (some ⟨bF, oF, none⟩) e.fs.length cF] 115)).cell? ⟨w.heap.size, 2, none⟩ = some (.slice (some ⟨bF, oF, none⟩) e.fs.length cF) := World.cell?_alloc_at _ _ _ _ rfl
        have hs0 : w.heap.size + 1 ≤ (w.alloc (.cells #[.int .u64 e.p, .int .u64 e.g, .slice (some ⟨bF, oF, none⟩) e.fs.length cF] 115)).heap.size := by simp
        generalize w.alloc (.cells #[.int .u64 e.p, .int .u64 e.g, .slice (some ⟨bF, oF, none⟩) e.fs.length cF] 115) = w1 at *
        have hR1 := (hR.below hB0).mono (show w.heap.size ≤ w1.heap.size by omega)
        have hc1 : ∀ j, j < e.fs.length → w1.cell? ⟨bF, oF + j * 2, none⟩ = some (.int .u64 (e.fs.getD j (0, 0)).1) ∧ w1.cell? ⟨bF, oF + j * 2 + 1, none⟩ = some (.int .i64 (e.fs.getD j (0, 0)).2) := fun j hj => ⟨cell_keep hB0 hbF (hc j hj).1, cell_keep hB0 hbF (hc j hj).2⟩
        have hbF1 : bF < w1.heap.size := by omega
        clear hR hc
        go_loopw [5, 31] (fun N K wr => ∃ k : Nat, ∃ n : Int, N = .int .u64 n ∧ K = .int .i64 k ∧ k ≤ e.fs.length ∧ 0 ≤ n ∧ n ≤ 18446744073709551615 ∧ Hid (n = prodI (e.fs.take k)) ∧
            Hid (∀ j, j < k → (1 ≤ (e.fs.getD j (0, 0)).2 ∧ (e.fs.getD j (0, 0)).2 ≤ 62) ∧ (0 < j → (e.fs.getD (j - 1) (0, 0)).1 < (e.fs.getD j (0, 0)).1 ∧ ahead.any (fun x => x.p == (e.fs.getD j (0, 0)).1) = true)) ∧ Below w1.heap.size w1 wr)
          (fun _ K _ => e.fs.length - (intOf K).toNat)
        case atStart => exact ⟨0, 1, rfl, rfl, by omega, by omega, by omega, Lib.hid (by simp [prodI]), Lib.hid (fun j hj => by omega), Below.refl _ _⟩
        case round =>
          obtain ⟨k, n, rfl, rfl, hk, hn0, hn1, hn, hok, hB⟩ := hrel
          have k0' := cell_keep hB (by omega) k0
          have k2' := cell_keep hB (by omega) k2
          by_cases hlt : k < e.fs.length
          · obtain ⟨x, hx⟩ : ∃ x, x = e.fs.getD k (0, 0) := ⟨_, rfl⟩
            have hxm : x ∈ e.fs := by rw [hx, List.getD_eq_getElem?_getD, List.getElem?_eq_getElem hlt]; exact List.getElem_mem hlt
            obtain ⟨q0, q1, e0, e1⟩ := hE.q x hxm
            have d0 := cell_keep hB hbF1 (hc1 k hlt).1
            have d1 := cell_keep hB hbF1 (hc1 k hlt).2
            rw [← hx] at d0 d1
            have HX := Lib.hid hx
            clear hx
            by_cases hE1 : 1 ≤ x.2 ∧ x.2 ≤ 62
            · obtain ⟨hE1, hE2⟩ := hE1
              go_upto_region 9 with fail
              have hB1 := hB.alloc hB.size (.cells #[.int .u64 x.1, .int .i64 x.2] 153)
              have l0 : (wr.alloc (.cells #[.int .u64 x.1, .int .i64 x.2] 153)).cell? ⟨wr.heap.size, 0, none⟩ = some (.int .u64 x.1) := World.cell?_alloc_at _ _ _ _ rfl
              have l1 : (wr.alloc (.cells #[.int .u64 x.1, .int .i64 x.2] 153)).cell? ⟨wr.heap.size, 1, none⟩ = some (.int .i64 x.2) := World.cell?_alloc_at _ _ _ _ rfl
              have hsz : wr.heap.size + 1 ≤ (wr.alloc (.cells #[.int .u64 x.1, .int .i64 x.2] 153)).heap.size := by simp
              generalize wr.alloc (.cells #[.int .u64 x.1, .int .i64 x.2] 153) = w2 at *
              have hsw := hB.size
              have k0x := cell_keep hB1 (by omega) k0
              have k2x := cell_keep hB1 (by omega) k2
              clear k0' k2' d0 d1
              obtain ⟨bad, hbad⟩ : ∃ bad : Bool, bad = (decide (0 < k) && (decide (x.1 ≤ (e.fs.getD (k - 1) (0, 0)).1) || !(ahead.any (fun z => z.p == x.1)))) := ⟨_, rfl⟩
              go_cut [64] (fun v wx => v = .bool bad ∧ Below w2.heap.size w2 wx)
              case first =>
                by_cases hk0 : k = 0
                · have t5 : decide ((0 : Int) < k) = false := by simp; omega
                  have t5' : decide (0 < k) = false := by simp; omega
                  have HB : Hid (bad = false) := Lib.hid (by rw [hbad, hk0]; rfl)
                  clear hbad hk0
                  go_quiet (fail)
                  go_wp2_with fail
                  go_meet
                  exact ⟨by rw [HB.out], below_drewN (Below.refl _ _) _⟩
                · have t5 : decide ((0 : Int) < k) = true := by simp; omega
                  have t5' : decide (0 < k) = true := by simp; omega
                  have dy := cell_keep hB1 hbF1 (hc1 (k - 1) (by omega)).1
                  have ek : ((k : Int) - 1) = ((k - 1 : Nat) : Int) := by omega
                  obtain ⟨y, hy⟩ : ∃ y, y = (e.fs.getD (k - 1) (0, 0)).1 := ⟨_, rfl⟩
                  rw [← hy] at dy hbad
                  have hkl : k - 1 < e.fs.length := by omega
                  have hR2 := Lib.hid ((hR1.below hB1).mono hB1.size)
                  clear hy hc1 hR1
                  by_cases hxy : x.1 ≤ y
                  · have t6 : decide (x.1 ≤ y) = true := by simpa using hxy
                    have HB : Hid (bad = true) := Lib.hid (by rw [hbad, t6]; simp; omega)
                    clear hbad hxy
                    go_quiet (fail)
                    go_wp2_with fail
                    go_meet
                    exact ⟨by rw [HB.out], below_drewN (Below.refl _ _) _⟩
                  · have t6 : decide (x.1 ≤ y) = false := by simpa using hxy
                    have HB : Hid (bad = !(ahead.any (fun z => z.p == x.1))) := Lib.hid (by rw [hbad, t6]; simp; omega)
                    clear hbad hxy
                    obtain ⟨an, han⟩ : ∃ an, an = ahead.any (fun z => z.p == x.1) := ⟨_, rfl⟩
                    have hCl : Hid (∀ W, Below w2.heap.size w2 W → Calls Tryz.prog 215 #[.slice A ahead.length c, .int .u64 x.1] W fun e w' => e = .returned (.bool an) ∧ Below W.heap.size W w') := Lib.hid (fun W hW => by
                      rw [han]
                      exact claimed_any A c x.1 ahead W (by omega) ((hR2.out.below hW).mono hW.size))
                    rw [← han] at HB
                    clear han ek
                    have s1 : IntKind.i64.wrap ((k : Int) - 1) = (k : Int) - 1 := IntWalk.i64_in _ (by omega)
                    have s2 : 0 ≤ (k : Int) - 1 := by omega
                    have s3 : ((k : Int) - 1).toNat = k - 1 := by omega
                    have s4 : (k : Int) - 1 < e.fs.length := by omega
                    have s5 : 1 ≤ (k : Int) := by omega
                    have s6 : 1 ≤ k := by omega
                    go_region_with (go_at_call 215; refine (hCl.out _ (below_drewN (Below.refl _ _) _)).mono ?_; rintro e w' ⟨rfl, hBc⟩)
                    all_goals go_wp2_with fail
                    all_goals go_meet
                    all_goals refine ⟨by rw [HB.out], ?_⟩
                    all_goals first
                      | exact (below_drewN (Below.refl _ _) _).trans (hBc.mono (Nat.le_refl _))
                      | exact below_drewN ((below_drewN (Below.refl _ _) _).trans (hBc.mono (Nat.le_refl _))) _
              case rest =>
                obtain ⟨rfl, hBc⟩ := hcut
                have m0 := cell_keep hBc (show wr.heap.size < w2.heap.size by omega) l0
                have m1 := cell_keep hBc (show wr.heap.size < w2.heap.size by omega) l1
                have hB2 : Below w1.heap.size w1 wc := hB1.trans (hBc.mono hB1.size)
                have hsc := hBc.size
                have HBAD := Lib.hid hbad
                clear k0x k2x l0 l1 hBc hB1 hbad hc1 hR1 hB
                cases bad with
                | true =>
                  have hno : Hid (¬ WholeP ahead e) := Lib.hid (fun h => by
                    have hb := HBAD.out
                    rcases Nat.eq_zero_or_pos k with h0 | h0
                    · subst h0; simp at hb
                    · have h1 := h.rise (k - 1) (by omega)
                      rw [show k - 1 + 1 = k by omega, ← HX.out] at h1
                      have hd : decide (x.1 ≤ (e.fs.getD (k - 1) (0, 0)).1) = false := decide_eq_false_iff_not.2 (by omega)
                      rw [h1.2, hd] at hb
                      simp at hb)
                  go_wp2
                  go_ret
                  exact ⟨false, rfl, by simp [hno.out], hB0.trans (hB2.mono (by omega))⟩
                | false =>
                  have hok2 : Hid (∀ j, j < k + 1 → (1 ≤ (e.fs.getD j (0, 0)).2 ∧ (e.fs.getD j (0, 0)).2 ≤ 62) ∧ (0 < j → (e.fs.getD (j - 1) (0, 0)).1 < (e.fs.getD j (0, 0)).1 ∧ ahead.any (fun x => x.p == (e.fs.getD j (0, 0)).1) = true)) := Lib.hid (fun j hj => by
                    by_cases hjk : j = k
                    · subst hjk
                      rw [← HX.out]
                      refine ⟨⟨hE1, hE2⟩, fun h0 => ?_⟩
                      have hb := HBAD.out
                      have hd : decide (0 < j) = true := by simpa using h0
                      rw [hd] at hb
                      simp only [Bool.true_and] at hb
                      have hb' := (Bool.or_eq_false_iff.1 hb.symm)
                      refine ⟨?_, ?_⟩
                      · exact Int.not_le.1 (decide_eq_false_iff_not.1 hb'.1)
                      · have := hb'.2
                        cases h : ahead.any (fun z => z.p == x.1) with
                        | true => rfl
                        | false => rw [h] at this; simp at this
                    · exact hok.out j (by omega))
                  obtain ⟨wq, rfl⟩ : ∃ wq : World, wq = wc := ⟨_, rfl⟩
                  clear HBAD
                  go_wp2
                  go_loopw [5, 67] (fun N I wi => ∃ i : Nat, ∃ n' : Int, N = .int .u64 n' ∧ I = .int .i64 i ∧ (i : Int) ≤ x.2 ∧ 0 ≤ n' ∧ n' ≤ 18446744073709551615 ∧ Hid (n' = prodI (e.fs.take k) * x.1 ^ i) ∧ wi = wq) (fun _ I _ => 63 - (intOf I).toNat)
                  case atStart => exact ⟨0, n, rfl, rfl, by omega, hn0, hn1, Lib.hid (by rw [hn.out]; simp), rfl⟩
                  case round =>
                    obtain ⟨i, n', rfl, rfl, hi, hn'0, hn'1, hn', rfl⟩ := hrel
                    by_cases hil : (i : Int) < x.2
                    · have hm0 : 0 ≤ n' * x.1 := Int.mul_nonneg hn'0 q0
                      have hm1 : n' * x.1 ≤ 18446744073709551615 * 18446744073709551615 := Int.mul_le_mul hn'1 q1 q0 (by omega)
                      have hnx : Hid (n' * x.1 = prodI (e.fs.take k) * x.1 ^ (i + 1)) := Lib.hid (by rw [hn'.out, Int.pow_succ, Int.mul_assoc])
                      have hMu := Lib.hid (mul64_any n' x.1 wr hn'0 hn'1 q0 q1)
                      by_cases hbig : 18446744073709551616 ≤ n' * x.1
                      · have hh : 0 < n' * x.1 / 18446744073709551616 := by omega
                        have hno : Hid (¬ WholeP ahead e) := Lib.hid (fun h => by
                          have := h.part k (i + 1) hlt (by rw [← HX.out]; omega)
                          rw [← HX.out, ← hnx.out] at this
                          omega)
                        obtain ⟨hi64, hhi⟩ : ∃ v, v = n' * x.1 / 18446744073709551616 := ⟨_, rfl⟩
                        rw [← hhi] at hMu hh
                        clear hhi
                        go_wp2_with fail
                        refine hMu.out.mono ?_
                        rintro r w' ⟨rfl, rfl⟩
                        go_wp2
                        go_ret
                        exact ⟨false, rfl, by simp [hno.out], hB0.trans (hB2.mono (by omega))⟩
                      · have hh : n' * x.1 / 18446744073709551616 = 0 := by omega
                        have hlo : n' * x.1 % 18446744073709551616 = n' * x.1 := by omega
                        obtain ⟨v, hv⟩ : ∃ v, v = n' * x.1 := ⟨_, rfl⟩
                        rw [hh, hlo, ← hv] at hMu
                        rw [← hv] at hnx hm0 hbig
                        clear hh hlo hm1 hv
                        go_wp2_with fail
                        refine hMu.out.mono ?_
                        rintro r w' ⟨rfl, rfl⟩
                        go_wp2
                        go_roundw
                        case rel => exact ⟨i + 1, v, by first | rfl | go_num, by go_num, by omega, hm0, by omega, hnx, by first | rfl | trivial⟩
                        case measure => simp [intOf]; omega
                    · have hiE : (i : Int) = x.2 := by omega
                      have hfin : Hid (n' = prodI (e.fs.take (k + 1))) := Lib.hid (by
                        rw [hn'.out, prodI_take hlt, ← HX.out]
                        congr 2
                        omega)
                      clear hiE
                      go_wp2
                      go_roundw
                      case rel => exact ⟨k + 1, n', by first | rfl | go_num, by go_num, by omega, hn'0, hn'1, hfin, hok2, hB2⟩
                      case measure => simp [intOf]; omega
            · have hno : Hid (¬ WholeP ahead e) := Lib.hid (fun h => hE1 (by rw [HX.out]; exact h.each k hlt))
              have t4 : decide (x.2 < 1) = true ∨ (decide (x.2 < 1) = false ∧ decide (62 < x.2) = true) := by
                by_cases h : x.2 < 1
                · exact .inl (by simpa using h)
                · exact .inr ⟨by simpa using h, by simp; omega⟩
              clear hE1 hc1 hR1 k0 k2
              rcases t4 with t4 | ⟨t4, t5⟩
              all_goals
                go_wp2
                go_ret
                exact ⟨false, rfl, by simp [hno.out], hB0.trans ((hB.alloc hB.size _).mono (by omega))⟩
          · obtain rfl : k = e.fs.length := by omega
            have hn2 := hn.out
            rw [List.take_length] at hn2
            have hiff : Hid ((n == e.p - 1) = true ↔ WholeP ahead e) := Lib.hid (by
              rw [beq_iff_eq]
              constructor
              · intro h
                refine ⟨by omega, by omega, by rw [← HX0.out]; exact H2.out, fun j hj => (hok.out j hj).1, fun j hj => ?_, by rw [← hn2]; exact h⟩
                have := (hok.out (j + 1) hj).2 (by omega)
                simpa using this
              · intro h
                rw [hn2]; exact h.prod)
            clear hn2 hc1 hR1
            go_wp2
            go_ret
            exact ⟨_, rfl, hiff.out, hB0.trans (hB.mono (by omega))⟩
      · have t3 : (x0 != 2) = true := by simp [h2]
        have hno : Hid (¬ WholeP ahead e) := Lib.hid (fun h => h2 (by rw [HX0.out]; exact h.two))
        clear h2 hc hF
        go_enter Tryz.func196, Tryz.ntmps196
        go_wp2
        go_ret
        exact ⟨false, rfl, by simp [hno.out], (Below.refl _ _).alloc (Nat.le_refl _) _⟩
end Go.Proofs.YtmalmijdjhkklaaGreat
end

section
/- proof.full. -/
namespace Go.Proofs.YtmalmijdjhkklaaGreat
open Go.RowKit

theorem lft_one {m a : Int} (hm : 1 < m) (ho : m % 2 = 1) : lft m a = lft m 1 ↔ a % m = 1 := by
  constructor
  · intro h
    have h1 := lft_mul (a := a) (y := 1) hm ho
    rw [h, lft_mul hm ho, Int.mul_one, Int.mul_one] at h1
    rw [← h1, Int.emod_eq_of_lt (by omega) hm]
  · intro h
    exact lft_congr (by rw [h, Int.emod_eq_of_lt (by omega) hm])

/-- P - 1 is the least power of G that is 1. -/
structure FullP (e : Ent) : Prop where
  one : e.g ^ (e.p - 1).toNat % e.p = 1
  no : ∀ x ∈ e.fs, e.g ^ ((e.p - 1) / x.1).toNat % e.p ≠ 1

set_option maxHeartbeats 2000000 in
set_option maxRecDepth 100000 in
theorem full_any (AF : Option Addr) (cF : Nat) (e : Ent) (w : World) (hE : EntOk e) (hp3 : 3 ≤ e.p) (hpm : e.p < 9223372036854775808) (hpo : e.p % 2 = 1) (hq2 : ∀ x ∈ e.fs, 2 ≤ x.1) (hF : RdPI w w.heap.size AF e.fs) :
    Calls Tryz.prog 197 #[.agg #[.int .u64 e.p, .int .u64 e.g, .slice AF e.fs.length cF]] w fun r w' => ∃ b, r = .returned (.bool b) ∧ (b = true ↔ FullP e) ∧ Below w.heap.size w w' := by
  have hg0 := hE.g0
  have hg1 := hE.g1
  have hfl := hE.len
  have hB0 := (Below.refl w.heap.size w).alloc (Nat.le_refl _) (.cells #[.int .u64 e.p, .int .u64 e.g, .slice AF e.fs.length cF] 115)
  have HO := Lib.hid hpo
  clear hpo
  go_enter Tryz.func197, Tryz.ntmps197
  go_wp2_with fail
  refine (new_any e.p _ hp3 hpm HO.out).mono ?_
  rintro r w1 ⟨cx, t, o, s, rfl, hC, hcx, hB1⟩
  have k0 : (w.alloc (.cells #[.int .u64 e.p, .int .u64 e.g, .slice AF e.fs.length cF] 115)).cell? ⟨w.heap.size, 0, none⟩ = some (.int .u64 e.p) := World.cell?_alloc_at _ _ _ _ rfl
  have k1 : (w.alloc (.cells #[.int .u64 e.p, .int .u64 e.g, .slice AF e.fs.length cF] 115)).cell? ⟨w.heap.size, 1, none⟩ = some (.int .u64 e.g) := World.cell?_alloc_at _ _ _ _ rfl
  have k2 : (w.alloc (.cells #[.int .u64 e.p, .int .u64 e.g, .slice AF e.fs.length cF] 115)).cell? ⟨w.heap.size, 2, none⟩ = some (.slice AF e.fs.length cF) := World.cell?_alloc_at _ _ _ _ rfl
  have hs0 : w.heap.size + 1 ≤ (w.alloc (.cells #[.int .u64 e.p, .int .u64 e.g, .slice AF e.fs.length cF] 115)).heap.size := by simp
  have hs1 := hB1.size
  have k0 := cell_keep hB1 (by omega) k0
  have k1 := cell_keep hB1 (by omega) k1
  have k2 := cell_keep hB1 (by omega) k2
  have hB : Below w.heap.size w w1 := hB0.trans (hB1.mono (by omega))
  have hF1 := hF.below hB
  have hcl := hC.lt
  have hsz : w.heap.size + 1 ≤ w1.heap.size := by omega
  clear hB0 hB1 hF hs0 hs1 hcx
  go_wp2_with fail
  refine (in_any hC e.g hg0 hg1).mono ?_
  rintro r w2 ⟨rfl, n1, rfl⟩
  obtain ⟨L, hL⟩ : ∃ L, L = lft e.p e.g := ⟨_, rfl⟩
  rw [← hL]
  have HL := Lib.hid hL
  clear hL
  go_wp2_with fail
  rw [HL.out]
  refine (mpow_any (hC.drewN n1) e.g (e.p - 1) (by omega) (by omega)).mono ?_
  rintro r w2 ⟨rfl, n2, rfl⟩
  rw [← HL.out]
  obtain ⟨y, hy⟩ : ∃ y, y = lft e.p (e.g ^ (e.p - 1).toNat) := ⟨_, rfl⟩
  rw [← hy]
  have HY := Lib.hid hy
  clear hy
  go_wp2_with fail
  refine (one_any (hC.drewN _)).mono ?_
  rintro r w2 ⟨rfl, n3, rfl⟩
  obtain ⟨u, hu⟩ : ∃ u, u = lft e.p 1 := ⟨_, rfl⟩
  rw [← hu]
  have HU := Lib.hid hu
  clear hu
  by_cases h1 : e.g ^ (e.p - 1).toNat % e.p = 1
  · have t1 : (y != u) = false := by rw [HY.out, HU.out, (lft_one (by omega) HO.out).2 h1]; simp
    have H1 := Lib.hid h1
    clear h1
    go_wp2
    go_loopw [30] (fun I wr => ∃ k : Nat, I = .int .i64 k ∧ k ≤ e.fs.length ∧ Hid (∀ x ∈ e.fs.take k, e.g ^ ((e.p - 1) / x.1).toNat % e.p ≠ 1) ∧ Below w1.heap.size w1 wr) (fun I _ => e.fs.length - (intOf I).toNat)
    case atStart => exact ⟨0, rfl, by omega, Lib.hid (by simp), by first | exact below_drewN (Below.refl _ _) _ | exact below_drewN (below_drewN (Below.refl _ _) _) _⟩
    case round =>
      clear t1
      obtain ⟨k, rfl, hk, hno, hBr⟩ := hrel
      have hCr := hC.below hBr hcl
      have j0 := cell_keep hBr (by omega) k0
      have hlt2 : w.heap.size < wr.heap.size := by have := hBr.size; omega
      have j0x : (wr.alloc (.cells #[.int .u64 (e.fs.getD k (0, 0)).1, .int .i64 (e.fs.getD k (0, 0)).2] 153)).cell? ⟨w.heap.size, 0, none⟩ = some (.int .u64 e.p) := (World.cell?_alloc_past _ _ _ hlt2).trans j0
      have hF2 := (hF1.mono (show w.heap.size ≤ w1.heap.size by omega)).below hBr
      by_cases hlt : k < e.fs.length
      · obtain ⟨b, o', rfl, hb, hc⟩ := hF2 (by omega)
        have d0 := (hc k hlt).1
        have d1 := (hc k hlt).2
        obtain ⟨x, hx⟩ : ∃ x, x = e.fs.getD k (0, 0) := ⟨_, rfl⟩
        rw [← hx] at d0 d1 j0x
        have hxm : x ∈ e.fs := by rw [hx, List.getD_eq_getElem?_getD, List.getElem?_eq_getElem hlt]; exact List.getElem_mem hlt
        have hx2 := hq2 x hxm
        have htk : Hid (e.fs.take (k + 1) = e.fs.take k ++ [x]) := Lib.hid (by
          rw [List.take_succ_eq_append_getElem hlt, hx, List.getD_eq_getElem?_getD, List.getElem?_eq_getElem hlt]; rfl)
        have hd0 : 0 ≤ (e.p - 1) / x.1 := Int.ediv_nonneg (by omega) (by omega)
        have hd1 : (e.p - 1) / x.1 ≤ e.p - 1 := Int.ediv_le_self _ (by omega)
        have hz : (x.1 == 0) = false := beq_eq_false_iff_ne.2 (by omega)
        have hBx := hBr.alloc hBr.size (.cells #[.int .u64 x.1, .int .i64 x.2] 153)
        have hCx := hC.below hBx hcl
        clear hc hF2 hF1 hx
        go_wp2_with fail
        rw [HL.out]
        refine (mpow_any hCx e.g ((e.p - 1) / x.1) hd0 (by omega)).mono ?_
        rintro r w3 ⟨rfl, n4, rfl⟩
        rw [← HL.out]
        obtain ⟨v, hv⟩ : ∃ v, v = lft e.p (e.g ^ ((e.p - 1) / x.1).toNat) := ⟨_, rfl⟩
        rw [← hv]
        have HV := Lib.hid hv
        clear hv
        go_wp2_with fail
        refine (one_any (hCx.drewN _)).mono ?_
        rintro r w3 ⟨rfl, n5, rfl⟩
        rw [← HU.out]
        by_cases h2 : e.g ^ ((e.p - 1) / x.1).toNat % e.p = 1
        · have t2 : (v == u) = true := by rw [HV.out, HU.out, (lft_one (by omega) HO.out).2 h2]; simp
          have hnf : Hid (¬ FullP e) := Lib.hid (fun h => h.no x hxm h2)
          clear h2
          go_wp2
          go_ret
          refine ⟨false, rfl, by simp [hnf.out], hB.trans (Below.mono ?_ (show w.heap.size ≤ w1.heap.size by omega))⟩
          first | exact below_drewN hBx _ | exact below_drewN (below_drewN hBx _) _
        · have t2 : (v == u) = false := by
            rw [beq_eq_false_iff_ne, HV.out, HU.out]; exact fun h => h2 ((lft_one (by omega) HO.out).1 h)
          have hn2 : Hid (∀ z ∈ e.fs.take (k + 1), e.g ^ ((e.p - 1) / z.1).toNat % e.p ≠ 1) := Lib.hid (by
            rw [htk.out]
            intro z hz
            rcases List.mem_append.1 hz with hz | hz
            · exact hno.out z hz
            · simp only [List.mem_singleton] at hz; subst hz; exact h2)
          clear h2
          go_wp2
          go_roundw
          case rel => exact ⟨k + 1, by go_num, by omega, hn2, by first | exact below_drewN hBx _ | exact below_drewN (below_drewN hBx _) _⟩
          case measure => simp [intOf]; omega
      · obtain rfl : k = e.fs.length := by omega
        have hall : Hid (FullP e) := Lib.hid ⟨H1.out, by have := hno.out; rw [List.take_length] at this; exact this⟩
        go_wp2
        go_ret
        exact ⟨true, rfl, by simp [hall.out], hB.trans (hBr.mono (by omega))⟩
  · have t1 : (y != u) = true := by
      rw [bne_iff_ne, HY.out, HU.out]; exact fun h => h1 ((lft_one (by omega) HO.out).1 h)
    have hno : Hid (¬ FullP e) := Lib.hid (fun h => h1 h.one)
    clear h1
    go_wp2
    go_ret
    exact ⟨false, rfl, by simp [hno.out], below_drewN hB _⟩
end Go.Proofs.YtmalmijdjhkklaaGreat
end
