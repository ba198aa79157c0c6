/- Rows of entries that are read; slices.IndexFunc, ContainsFunc at entries; proof.claimed. -/
import Derived.Test.YtgdadkkiefkimaaMont
namespace Go.Proofs.Ytgdadkkiefkimaa
open Go.RowKit

/-- A slice of powers that is read (any numbers). -/
def RdPI (w : World) (B : Nat) (A : Option Addr) (fs : List (Int × Int)) : Prop :=
  0 < fs.length → ∃ b o, A = some ⟨b, o, none⟩ ∧ b < B ∧ ∀ j, j < fs.length → w.cell? ⟨b, o + j * 2, none⟩ = some (.int .u64 (fs.getD j (0, 0)).1) ∧ w.cell? ⟨b, o + j * 2 + 1, none⟩ = some (.int .i64 (fs.getD j (0, 0)).2)
theorem RdPI.below {w w' : World} {B : Nat} {A : Option Addr} {fs : List (Int × Int)} (h : RdPI w B A fs) (hb : Below B w w') : RdPI w' B A fs := fun hl => by
  obtain ⟨b, o, e, hlt, hc⟩ := h hl
  exact ⟨b, o, e, hlt, fun j hj => ⟨cell_keep hb hlt (hc j hj).1, cell_keep hb hlt (hc j hj).2⟩⟩
theorem RdPI.mono {w : World} {B B' : Nat} {A : Option Addr} {fs : List (Int × Int)} (h : RdPI w B A fs) (hb : B ≤ B') : RdPI w B' A fs := fun hl => by
  obtain ⟨b, o, e, hlt, hc⟩ := h hl
  exact ⟨b, o, e, by omega, hc⟩
def upP (fs : List (Nat × Nat)) : List (Int × Int) := fs.map fun x => ((x.1 : Int), (x.2 : Int))
theorem RdPow.toI {w : World} {B : Nat} {A : Option Addr} {fs : List (Nat × Nat)} (h : RdPow w B A fs) : RdPI w B A (upP fs) := fun hl => by
  obtain ⟨b, o, e, hlt, hc⟩ := h (by simpa [upP] using hl)
  refine ⟨b, o, e, hlt, fun j hj => ?_⟩
  have hj' : j < fs.length := by simpa [upP] using hj
  have hx := hc j hj'
  have e1 : (upP fs).getD j (0, 0) = (((fs.getD j (0, 0)).1 : Int), ((fs.getD j (0, 0)).2 : Int)) := by
    simp [upP, List.getD_eq_getElem?_getD, List.getElem?_eq_getElem hj']
  rw [e1]
  exact hx

/-- An entry, as numbers. -/
structure Ent where
  p : Int
  g : Int
  fs : List (Int × Int)
def Ent.none : Ent := ⟨0, 0, []⟩
/-- Three cells hold an entry. -/
structure EntAt (w : World) (B b o : Nat) (A : Option Addr) (c : Nat) (e : Ent) : Prop where
  c0 : w.cell? ⟨b, o, none⟩ = some (.int .u64 e.p)
  c1 : w.cell? ⟨b, o + 1, none⟩ = some (.int .u64 e.g)
  c2 : w.cell? ⟨b, o + 2, none⟩ = some (.slice A e.fs.length c)
  rd : RdPI w B A e.fs
/-- Bounds of an entry's numbers, which its types give. -/
structure EntOk (e : Ent) : Prop where
  p0 : 0 ≤ e.p
  p1 : e.p ≤ 18446744073709551615
  g0 : 0 ≤ e.g
  g1 : e.g ≤ 18446744073709551615
  len : e.fs.length ≤ 8796093022208
  q : ∀ x ∈ e.fs, 0 ≤ x.1 ∧ x.1 ≤ 18446744073709551615 ∧ -9223372036854775808 ≤ x.2 ∧ x.2 ≤ 9223372036854775807
/-- A slice of entries that is read. -/
def RdE (w : World) (B : Nat) (A : Option Addr) (es : List Ent) : Prop :=
  0 < es.length → ∃ b o, A = some ⟨b, o, none⟩ ∧ b < B ∧ ∀ j, j < es.length → ∃ A' c', EntAt w B b (o + j * 3) A' c' (es.getD j Ent.none)
theorem RdE.below {w w' : World} {B : Nat} {A : Option Addr} {es : List Ent} (h : RdE w B A es) (hb : Below B w w') : RdE w' B A es := fun hl => by
  obtain ⟨b, o, e, hlt, hc⟩ := h hl
  refine ⟨b, o, e, hlt, fun j hj => ?_⟩
  obtain ⟨A', c', k⟩ := hc j hj
  exact ⟨A', c', cell_keep hb hlt k.c0, cell_keep hb hlt k.c1, cell_keep hb hlt k.c2, k.rd.below hb⟩
theorem RdE.mono {w : World} {B B' : Nat} {A : Option Addr} {es : List Ent} (h : RdE w B A es) (hb : B ≤ B') : RdE w B' A es := fun hl => by
  obtain ⟨b, o, e, hlt, hc⟩ := h hl
  refine ⟨b, o, e, by omega, fun j hj => ?_⟩
  obtain ⟨A', c', k⟩ := hc j hj
  exact ⟨A', c', k.c0, k.c1, k.c2, k.rd.mono hb⟩
theorem RdE.take {w : World} {B : Nat} {A : Option Addr} {es : List Ent} (h : RdE w B A es) (n : Nat) : RdE w B A (es.take n) := fun hl => by
  have hl' : 0 < es.length := by simp at hl; omega
  obtain ⟨b, o, e, hlt, hc⟩ := h hl'
  refine ⟨b, o, e, hlt, fun j hj => ?_⟩
  rw [List.length_take] at hj
  obtain ⟨A', c', k⟩ := hc j (by omega)
  have : (es.take n).getD j Ent.none = es.getD j Ent.none := by simp [List.getD_eq_getElem?_getD, List.getElem?_take, show j < n by omega]
  rw [this]
  exact ⟨A', c', k⟩

theorem claimed1_any (p g q : Int) (sv : Value) (b1 : Nat) (w : World) (hq : w.cell? ⟨b1, 0, none⟩ = some (.int .u64 q)) :
    Calls Try.prog 81 #[.agg #[.int .u64 p, .int .u64 g, sv], .pointer (some ⟨b1, 0, none⟩)] w fun e w' => e = .returned (.bool (p == q)) ∧ Below w.heap.size w w' := by
  have hb1 := World.block_lt_of_cell? w _ hq
  go_enter Try.func81, Try.ntmps81
  go_wp2
  go_ret
  exact ⟨rfl, (Below.refl _ _).alloc (Nat.le_refl _) _⟩

set_option maxHeartbeats 1000000 in
theorem indexEnt_any (A : Option Addr) (c b1 : Nat) (q : Int) (es : List Ent) (w : World) (hl : es.length ≤ 140737488351232) (hR : RdE w w.heap.size A es) (hq : w.cell? ⟨b1, 0, none⟩ = some (.int .u64 q)) :
    Calls Try.prog 89 #[.slice A es.length c, .func (.func 81) #[] #[.pointer (some ⟨b1, 0, none⟩)]] w fun e w' => ∃ i : Int, e = .returned (.int .i64 i) ∧ (0 ≤ i ↔ es.any (fun x => x.p == q) = true) ∧ -1 ≤ i ∧ Below w.heap.size w w' := by
  have hb1 := World.block_lt_of_cell? w _ hq
  go_enter Try.func89, Try.ntmps89
  go_wp2
  go_loopw [5, 8] (fun _ i wr => ∃ k : Nat, i = .int .i64 k ∧ k ≤ es.length ∧ Hid ((es.take k).any (fun x => x.p == q) = false) ∧ Below w.heap.size w wr) (fun _ i _ => es.length - (intOf i).toNat)
  case atStart => exact ⟨0, rfl, by omega, Lib.hid (by simp), Below.refl _ _⟩
  case round =>
    obtain ⟨k, rfl, hk, hn, hB⟩ := hrel
    by_cases hlt : k < es.length
    · obtain ⟨b, o, rfl, hbl, hc⟩ := (hR.below hB) (by omega)
      obtain ⟨A', c', hE⟩ := hc k hlt
      have g0 := hE.c0
      have g1 := hE.c1
      have g2 := hE.c2
      have cq := cell_keep hB hb1 hq
      obtain ⟨x, hx⟩ : ∃ x, x = es.getD k Ent.none := ⟨_, rfl⟩
      rw [← hx] at g0 g1 g2
      have HX := Lib.hid hx
      have hxm : x ∈ es := by
        rw [hx, List.getD_eq_getElem?_getD, List.getElem?_eq_getElem hlt]
        exact List.getElem_mem hlt
      have htk : Hid ((es.take (k + 1)).any (fun x => x.p == q) = (x.p == q)) := Lib.hid (by
        rw [List.take_succ_eq_append_getElem hlt, List.any_append, hn.out, hx, List.getD_eq_getElem?_getD, List.getElem?_eq_getElem hlt]; simp)
      clear hx hc hR hE
      by_cases hpx : x.p = q
      · have t : (x.p == q) = true := by simp [hpx]
        have HA : Hid (es.any (fun x => x.p == q) = true) := Lib.hid (List.any_eq_true.2 ⟨x, hxm, t⟩)
        have T := Lib.hid t
        clear hpx t
        go_wp2_with fail
        refine (claimed1_any x.p x.g q (.slice A' x.fs.length c') b1 _ cq).mono ?_
        rintro e w2 ⟨rfl, hB2⟩
        rw [T.out]
        have hB3 : Below w.heap.size w w2 := hB.trans (hB2.mono hB.size)
        go_wp2
        go_ret
        exact ⟨k, rfl, by simp [HA.out], by omega, hB3⟩
      · have t : (x.p == q) = false := by simp [hpx]
        have HT : Hid ((es.take (k + 1)).any (fun x => x.p == q) = false) := Lib.hid (by rw [htk.out, t])
        have T := Lib.hid t
        clear hpx t htk
        go_wp2_with fail
        refine (claimed1_any x.p x.g q (.slice A' x.fs.length c') b1 _ cq).mono ?_
        rintro e w2 ⟨rfl, hB2⟩
        rw [T.out]
        have hB3 : Below w.heap.size w w2 := hB.trans (hB2.mono hB.size)
        go_wp2
        go_roundw
        case rel => exact ⟨k + 1, by go_num, by omega, HT, hB3⟩
        case measure => simp [intOf]; omega
    · obtain rfl : k = es.length := by omega
      have hz := hn.out
      rw [List.take_length] at hz
      have HZ := Lib.hid hz
      clear hz hn
      go_wp2
      go_ret
      exact ⟨-1, rfl, by simp [HZ.out], by omega, hB⟩

theorem contEnt_any (A : Option Addr) (c b1 : Nat) (q : Int) (es : List Ent) (w : World) (hl : es.length ≤ 140737488351232) (hR : RdE w w.heap.size A es) (hq : w.cell? ⟨b1, 0, none⟩ = some (.int .u64 q)) :
    Calls Try.prog 80 #[.slice A es.length c, .func (.func 81) #[] #[.pointer (some ⟨b1, 0, none⟩)]] w fun e w' => e = .returned (.bool (es.any (fun x => x.p == q))) ∧ Below w.heap.size w w' := by
  have hI := Lib.hid (indexEnt_any A c b1 q es w hl hR hq)
  clear hR
  go_enter Try.func80, Try.ntmps80
  go_wp2_with fail
  refine hI.out.mono ?_
  rintro e w1 ⟨i, rfl, hi, hi1, hB⟩
  have H := Lib.hid hi
  clear hi
  go_wp2
  go_ret
  exact ⟨ret_bool (by rw [Bool.eq_iff_iff, ← H.out]; simp), hB⟩

theorem claimed_any (A : Option Addr) (c : Nat) (q : Int) (es : List Ent) (w : World) (hl : es.length ≤ 140737488351232) (hR : RdE w w.heap.size A es) :
    Calls Try.prog 64 #[.slice A es.length c, .int .u64 q] w fun e w' => e = .returned (.bool (es.any (fun x => x.p == q))) ∧ Below w.heap.size w w' := by
  have hB := (Below.refl w.heap.size w).alloc (Nat.le_refl _) (.cells #[.int .u64 q] 28)
  have hI := Lib.hid (contEnt_any A c w.heap.size q es (w.alloc (.cells #[.int .u64 q] 28)) hl ((hR.below hB).mono (by simp)) (World.cell?_alloc_at _ _ _ _ rfl))
  clear hR
  go_enter Try.func64, Try.ntmps64
  go_wp2_with fail
  refine hI.out.mono ?_
  rintro e w1 ⟨rfl, hB1⟩
  go_wp2
  go_ret
  exact ⟨rfl, hB.trans (hB1.mono (by simp))⟩
end Go.Proofs.Ytgdadkkiefkimaa
