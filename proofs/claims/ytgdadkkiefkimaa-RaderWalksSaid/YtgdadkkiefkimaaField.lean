/- field.New. -/
import Derived.Test.YtgdadkkiefkimaaClaim
namespace Go.Proofs.Ytgdadkkiefkimaa
open Go.RowKit

/-- A field in memory: its prime, and the number whose powers are all. -/
structure FieldAt (w : World) (b c : Nat) (p g t o s : Int) (sv : Value) : Prop where
  ctx : Ctx w c p t o s
  f0 : w.cell? ⟨b, 0, none⟩ = some (.pointer (some ⟨c, 0, none⟩))
  f1 : w.cell? ⟨b, 1, none⟩ = some (.int .u64 p)
  f2 : w.cell? ⟨b, 2, none⟩ = some (.int .u64 g)
  f3 : w.cell? ⟨b, 3, none⟩ = some sv
def Fd (w : World) (B : Nat) (v : Value) (p g : Int) : Prop := ∃ b c t o s sv, v = .pointer (some ⟨b, 0, none⟩) ∧ b < B ∧ c < B ∧ FieldAt w b c p g t o s sv
theorem Fd.below {w w' : World} {B : Nat} {v : Value} {p g : Int} (h : Fd w B v p g) (hB : Below B w w') : Fd w' B v p g := by
  obtain ⟨b, c, t, o, s, sv, rfl, hb, hc, hF⟩ := h
  exact ⟨b, c, t, o, s, sv, rfl, hb, hc, hF.ctx.below hB hc, cell_keep hB hb hF.f0, cell_keep hB hb hF.f1, cell_keep hB hb hF.f2, cell_keep hB hb hF.f3⟩
theorem Fd.mono {w : World} {B B' : Nat} {v : Value} {p g : Int} (h : Fd w B v p g) (hB : B ≤ B') : Fd w B' v p g := by
  obtain ⟨b, c, t, o, s, sv, rfl, hb, hc, hF⟩ := h
  exact ⟨b, c, t, o, s, sv, rfl, by omega, by omega, hF⟩

/-- Is there a first entry with this P? -/
def FirstE (es : List Ent) (p g : Int) : Prop := ∃ k, k < es.length ∧ (es.getD k Ent.none).p = p ∧ (es.getD k Ent.none).g = g ∧ ∀ j, j < k → (es.getD j Ent.none).p ≠ p
def AllRight (es : List Ent) : Prop := es.length ≤ 32 ∧ ∀ j, j < es.length → RightP (es.take j) (es.getD j Ent.none)
/-- What New answers. -/
def NewP (es : List Ent) (p : Int) (w : World) (r : Ending) (w' : World) : Prop :=
  Below w.heap.size w w' ∧
  ((∃ er, ¬ AllRight es ∧ r = .returned (.tuple #[.pointer none, .int .i64 er]) ∧ er ≠ 0 ∧ (32 < es.length → er = 13) ∧ (es.length ≤ 32 → er = 3)) ∨
   (AllRight es ∧ (∀ e ∈ es, e.p ≠ p) ∧ r = .returned (.tuple #[.pointer none, .int .i64 14])) ∨
   (∃ v g, AllRight es ∧ FirstE es p g ∧ r = .returned (.tuple #[v, .int .i64 0]) ∧ Fd w' w'.heap.size v p g))

set_option maxHeartbeats 2000000 in
set_option maxRecDepth 100000 in
theorem fnew_any (A : Option Addr) (c : Nat) (es : List Ent) (p : Int) (w : World) (hl : es.length ≤ 140737488351232) (hlc : es.length ≤ c) (hR : RdE w w.heap.size A es) (hE : ∀ e ∈ es, EntOk e) :
    Calls Try.prog 20 #[.slice A es.length c, .int .u64 p] w (NewP es p w) := by
  go_enter Try.func20, Try.ntmps20
  go_wp2_with fail
  refine (check_any A c es w hl hlc hR hE).mono ?_
  rintro r w1 ⟨i, er, rfl, hcr, hB1⟩
  have hR1 := (hR.below hB1).mono hB1.size
  by_cases her : er = 0
  · subst her
    have HA : Hid (AllRight es) := Lib.hid (by
      rcases hcr with ⟨a, b, c⟩ | ⟨a, k, hk, b, c, d⟩ | ⟨a, b, c, d⟩
      · omega
      · omega
      · exact ⟨a, d⟩)
    clear hcr
    go_wp2_with fail
    refine (claim_any A c es p w1 HA.out.1 hlc hR1 hE HA.out.2).mono ?_
    rintro r w2 hcl
    rcases hcl with ⟨hno, rfl, hB2⟩ | ⟨k, A', c', n, hk, hkp, hkf, rfl, hB2⟩
    · have HN := Lib.hid hno
      clear hno
      go_wp2
      go_ret2
      exact ⟨(hB1.trans (hB2.mono hB1.size)).alloc (Nat.le_trans hB1.size hB2.size) _, .inr (.inl ⟨HA.out, HN.out, rfl⟩)⟩
    · have HF : Hid (FirstE es p (es.getD k Ent.none).g) := Lib.hid ⟨k, hk, hkp, rfl, hkf⟩
      have hRk := HA.out.2 k hk
      have hp3 : 3 ≤ p := by rw [← hkp]; exact hRk.p3
      have hpm : p < 9223372036854775808 := by rw [← hkp]; exact hRk.pm
      have hpo : Hid (p % 2 = 1) := Lib.hid (by rw [← hkp]; exact hRk.odd)
      have hg0 := hRk.g2
      obtain ⟨g, hg⟩ : ∃ g, g = (es.getD k Ent.none).g := ⟨_, rfl⟩
      rw [← hg] at HF hg0
      rw [← hg]
      have hBt : Below w.heap.size w w2 := hB1.trans (hB2.mono hB1.size)
      have hws : w.heap.size ≤ w2.heap.size := Nat.le_trans hB1.size hB2.size
      have hBx := hBt.alloc hws (.cells #[.int .u64 p, .int .u64 g, .slice A' n c'] 71)
      clear hkp hkf hRk hg hR1 hB1 hB2 hR
      go_wp2_with fail
      have l0 : (w2.alloc (.cells #[.int .u64 p, .int .u64 g, .slice A' n c'] 71)).cell? ⟨w2.heap.size, 0, none⟩ = some (.int .u64 p) := World.cell?_alloc_at _ _ _ _ rfl
      have l1 : (w2.alloc (.cells #[.int .u64 p, .int .u64 g, .slice A' n c'] 71)).cell? ⟨w2.heap.size, 1, none⟩ = some (.int .u64 g) := World.cell?_alloc_at _ _ _ _ rfl
      have l2 : (w2.alloc (.cells #[.int .u64 p, .int .u64 g, .slice A' n c'] 71)).cell? ⟨w2.heap.size, 2, none⟩ = some (.slice A' n c') := World.cell?_alloc_at _ _ _ _ rfl
      have hsz : w2.heap.size + 1 ≤ (w2.alloc (.cells #[.int .u64 p, .int .u64 g, .slice A' n c'] 71)).heap.size := by simp
      generalize w2.alloc (.cells #[.int .u64 p, .int .u64 g, .slice A' n c'] 71) = w3 at *
      refine (new_any p w3 hp3 hpm hpo.out).mono ?_
      rintro r w4 ⟨cx, t, o, s, rfl, hC, hcx, hB4⟩
      have m0 := cell_keep hB4 (by omega) l0
      have m1 := cell_keep hB4 (by omega) l1
      have m2 := cell_keep hB4 (by omega) l2
      have hBf := hBx.trans (hB4.mono (by omega))
      have hcl := hC.lt
      clear l0 l1 l2
      go_wp2
      go_ret2
      refine ⟨hBf.alloc (by have := hB4.size; omega) _, .inr (.inr ⟨_, g, HA.out, HF.out, rfl, w4.heap.size, cx, t, o, s, .slice A' n c', rfl, by simp, by simp; omega, ?_⟩)⟩
      exact ⟨hC.below ((Below.refl _ _).alloc (Nat.le_refl _) _) hcl, World.cell?_alloc_at _ _ _ _ rfl, World.cell?_alloc_at _ _ _ _ rfl, World.cell?_alloc_at _ _ _ _ rfl, World.cell?_alloc_at _ _ _ _ rfl⟩
  · have t1 : (er != 0) = true := by simp [her]
    have HB : Hid (¬ AllRight es ∧ (32 < es.length → er = 13) ∧ (es.length ≤ 32 → er = 3)) := Lib.hid (by
      rcases hcr with ⟨a, b, c⟩ | ⟨a, k, hk, b, c, d, f⟩ | ⟨a, b, c, d⟩
      · exact ⟨fun h => by have := h.1; omega, fun _ => c, fun h => by omega⟩
      · exact ⟨fun h => f (h.2 k hk), fun h => by omega, fun _ => c⟩
      · exact absurd c her)
    have HER := Lib.hid her
    clear her hcr
    go_wp2
    go_ret2
    exact ⟨hB1, .inl ⟨er, HB.out.1, rfl, HER.out, HB.out.2.1, HB.out.2.2⟩⟩
end Go.Proofs.Ytgdadkkiefkimaa
