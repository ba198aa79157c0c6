/- series: Derive, At. -/
import Derived.Test.YthhkljfgkihfgaaGreatSerC
set_option linter.unusedVariables false
set_option linter.unusedSimpArgs false
set_option linter.unusedSectionVars false
set_option linter.unusedVariables false
set_option linter.unusedSimpArgs false
namespace Go.Proofs.YthhkljfgkihfgaaGreat
open Go.RowKit
open Alg
theorem fmul_nil (x y : Int) (w : World) : Calls Tryz.prog 93 #[.pointer none, .int .u64 x, .int .u64 y] w fun e w' => e = .returned (.int .u64 0) ∧ w = w' := by
  go_enter Tryz.func93, Tryz.ntmps93
  go_wp2
  go_ret
  exact ⟨rfl, rfl⟩
theorem fadd_nil (x y : Int) (w : World) : Calls Tryz.prog 31 #[.pointer none, .int .u64 x, .int .u64 y] w fun e w' => e = .returned (.int .u64 0) ∧ w = w' := by
  go_enter Tryz.func31, Tryz.ntmps31
  go_wp2
  go_ret
  exact ⟨rfl, rfl⟩
theorem gder_short (v : Value) (A : Option Addr) (c n : Nat) (w : World) (h : n < 2) : Calls Tryz.prog 65 #[v, .slice A n c] w fun e w' => e = .returned (.slice none 0 0) ∧ w = w' := by
  have t : decide ((n : Int) < 2) = true := decide_eq_true (by omega)
  go_enter Tryz.func65, Tryz.ntmps65
  go_wp2
  go_ret
  exact ⟨rfl, rfl⟩
set_option maxHeartbeats 2000000 in
theorem gder_any (v : Value) (A : Option Addr) (c : Nat) (L : List Int) (m : Nat) (w : World) (F : Nat → Int) (hm : L.length = m + 1) (hm1 : 1 ≤ m) (hm2 : m ≤ 4294967296) (hR : RdI w w.heap.size .u64 A L)
    (hM : ∀ i, i < m → ∀ wz, Below w.heap.size w wz → Calls Tryz.prog 93 #[v, .int .u64 ((i : Int) + 1), .int .u64 (L.getD (i + 1) 0)] wz fun e w' => e = .returned (.int .u64 (F i)) ∧ ∃ n, w' = wz.drewN n) :
    Calls Tryz.prog 65 #[v, .slice A (m + 1 : Nat) c] w fun r w' => ∃ V, r = .returned V ∧ OwnU w' w.heap.size V m (full m F) ∧ Below w.heap.size w w' := by
  obtain ⟨i0, hi, hz0, hz1, hz2⟩ := info_parts info_u64
  obtain ⟨b, o, rfl, hb, hc⟩ := hR (by omega)
  have HC := Lib.hid hc
  have HM := Lib.hid hM
  have HL := Lib.hid hm
  have t : decide ((((m + 1 : Nat) : Int)) < 2) = false := decide_eq_false (by omega)
  have e1 : (((m + 1 : Nat) : Int)) - 1 = (m : Int) := by omega
  clear hc hM hm hR
  obtain ⟨k, hk⟩ : ∃ k, k = m + 1 := ⟨_, rfl⟩
  rw [← hk] at t e1 ⊢
  have hk2 : k ≤ 4294967297 := by omega
  clear hk
  go_enter Tryz.func65, Tryz.ntmps65
  go_wp2_with (at_make; refine wpList_make_full _ rfl _ _ 29 rfl w.heap.size 25 i0 (.int .u64 0) 1 Tryz.underlying29 hi hz0 hz1 _ _ _ _ m rfl rfl ?l1 ?l2 ?b2 ?b3 (Nat.le_refl _) ?_)
  case l1 => omega
  case l2 => omega
  case b2 => rw [hz2]; omega
  case b3 => unfold maxLen; omega
  intro w8 hown hgrow
  have hown0 : OwnU w8 w.heap.size (.slice (some ⟨w.heap.size, 0, none⟩) m m) m (part m F 0) := by
    unfold OwnU
    rw [part_zero, ints_zero', ← toList_madeCells_one]; exact hown
  have hB8 : Below w.heap.size w w8 := (Below.refl _ _).grown hgrow (Nat.le_refl _) (fun k h => by cases h)
  obtain ⟨G, hG⟩ : ∃ G, G = w.heap.size := ⟨_, rfl⟩
  rw [← hG]
  have hGe : w.heap.size ≤ G := by omega
  rw [show (⟨w.heap.size, 0, none⟩ : Addr) = ⟨G, 0, none⟩ by rw [hG]] at hown0
  have HO8 := Lib.hid hown0
  have HB8 := Lib.hid hB8
  clear hown hgrow hown0 hB8 hG
  go_wp2
  go_loopw [16] (fun I wr => ∃ i : Nat, I = .int .i64 i ∧ i ≤ m ∧ Hid (OwnU wr w.heap.size (.slice (some ⟨G, 0, none⟩) m m) m (part m F i)) ∧ Hid (Below w.heap.size w wr)) (fun I _ => m - (intOf I).toNat)
  case atStart => exact ⟨0, rfl, by omega, HO8, HB8⟩
  case round =>
    clear HO8 HB8
    obtain ⟨i, rfl, him, hO, hBr⟩ := hrel
    by_cases hlt : i < m
    · have c0 := cell_keep hBr.out hb (HC.out (i + 1) (by have := HL.out; omega))
      have hst : (part m F i).set i (F i) = part m F (i + 1) := part_step
      have hM1 := HM.out i hlt wr hBr.out
      obtain ⟨x0, hx0⟩ : ∃ x0, x0 = L.getD (i + 1) 0 := ⟨_, rfl⟩
      obtain ⟨z0, hz0'⟩ : ∃ z0, z0 = F i := ⟨_, rfl⟩
      rw [← hx0] at c0 hM1
      rw [← hz0'] at hM1 hst
      have HST := Lib.hid hst
      have HM1 := Lib.hid hM1
      obtain ⟨g0', f0, _⟩ := own_set hO.out i hlt
      have i1 : (0 : Int) ≤ (i : Int) := by omega
      have i2 : (i : Int) < (m : Int) := by omega
      clear hx0 hst hz0' hM1
      go_wp2_with fail
      refine HM1.out.mono ?_
      rintro e w3 ⟨rfl, q, rfl⟩
      have c2 : (wr.drewN q).cell? ⟨G, i, none⟩ = some (.int .u64 ((part m F i).getD i 0)) := g0'
      have f2 : (wr.drewN q).frozen? ⟨G, i, none⟩ = false := f0
      have hO1 := ((hO.out.drewN q).set i hlt z0).1
      rw [HST.out] at hO1
      have HO1 := Lib.hid hO1
      have HB1 : Hid (Below w.heap.size w ((wr.drewN q).setCell ⟨G, i, none⟩ (.int .u64 z0))) := Lib.hid ((below_drewN hBr.out q).setCell hGe _)
      clear hO1 hO hBr g0' f0
      go_wp2
      go_roundw
      case rel => exact ⟨i + 1, by go_num, by omega, HO1, HB1⟩
      case measure => simp [intOf]; omega
    · have hie : i = m := by omega
      have hO1 := hO.out
      have hpf : part m F m = full m F := part_full _ _
      rw [hie, hpf] at hO1
      have HO1 := Lib.hid hO1
      clear hie hO1 hO hpf
      go_wp2
      go_ret
      exact ⟨_, rfl, HO1.out, hBr.out⟩
set_option maxHeartbeats 2000000 in
theorem gat_any (v : Value) (A : Option Addr) (c : Nat) (L : List Int) (x : Int) (w : World) (M S : Nat → Int) (hl : L.length ≤ 4294967296) (hS : S 0 = 0) (hR : RdI w w.heap.size .u64 A L)
    (hM : ∀ i, i < L.length → ∀ n, Calls Tryz.prog 93 #[v, .int .u64 (S (L.length - (i + 1))), .int .u64 x] (w.drewN n) fun e w' => e = .returned (.int .u64 (M i)) ∧ ∃ k, w' = (w.drewN n).drewN k)
    (hA : ∀ i, i < L.length → ∀ n, Calls Tryz.prog 31 #[v, .int .u64 (M i), .int .u64 (L.getD i 0)] (w.drewN n) fun e w' => e = .returned (.int .u64 (S (L.length - i))) ∧ ∃ k, w' = (w.drewN n).drewN k) :
    Calls Tryz.prog 66 #[v, .slice A L.length c, .int .u64 x] w fun r w' => r = .returned (.int .u64 (S L.length)) ∧ ∃ n, w' = w.drewN n := by
  have HM := Lib.hid hM
  have HAd := Lib.hid hA
  have HR := Lib.hid hR
  have HS : Hid (0 = S (L.length - L.length)) := Lib.hid (by rw [Nat.sub_self, hS])
  clear hM hA hR hS
  go_enter Tryz.func66, Tryz.ntmps66
  go_wp2
  go_loopw [7, 8] (fun V I wr => ∃ (j : Nat) (i s : Int) (q : Nat), I = .int .i64 i ∧ V = .int .u64 s ∧ i = (j : Int) - 1 ∧ j ≤ L.length ∧ Hid (s = S (L.length - j)) ∧ wr = w.drewN q) (fun _ I _ => (intOf I + 1).toNat)
  case atStart => exact ⟨L.length, _, _, 0, rfl, rfl, rfl, Nat.le_refl _, HS, rfl⟩
  case round =>
    obtain ⟨j, i, s, q, rfl, rfl, hi, hj, hs, rfl⟩ := hrel
    rcases j with _ | j
    · obtain rfl : i = -1 := by omega
      clear hi hj
      go_wp2
      go_ret
      exact ⟨ret_int hs.out, _, rfl⟩
    · obtain rfl : i = (j : Int) := by omega
      have hlt : j < L.length := by omega
      obtain ⟨b, o, rfl, hb, hc⟩ := HR.out (by omega)
      have d : w.cell? ⟨b, o + j, none⟩ = some (.int .u64 (L.getD j 0)) := hc j hlt
      have HM1 : Hid (∀ n, Calls Tryz.prog 93 #[v, .int .u64 s, .int .u64 x] (w.drewN (q + n)) fun e w' => e = .returned (.int .u64 (M j)) ∧ ∃ k, w' = w.drewN (q + k)) := Lib.hid (fun n => by
        rw [hs.out]
        exact (HM.out j hlt (q + n)).mono fun e w' ⟨he, k, hk⟩ => ⟨he, n + k, by rw [hk, World.drewN_drewN, Nat.add_assoc]⟩)
      have HA1 : Hid (∀ n, Calls Tryz.prog 31 #[v, .int .u64 (M j), .int .u64 (L.getD j 0)] (w.drewN (q + n)) fun e w' => e = .returned (.int .u64 (S (L.length - j))) ∧ ∃ k, w' = w.drewN (q + k)) := Lib.hid (fun n =>
        (HAd.out j hlt (q + n)).mono fun e w' ⟨he, k, hk⟩ => ⟨he, n + k, by rw [hk, World.drewN_drewN, Nat.add_assoc]⟩)
      obtain ⟨y, hy⟩ : ∃ y, y = L.getD j 0 := ⟨_, rfl⟩
      obtain ⟨z, hz⟩ : ∃ z, z = M j := ⟨_, rfl⟩
      obtain ⟨u, hu⟩ : ∃ u, u = S (L.length - j) := ⟨_, rfl⟩
      rw [← hy] at d HA1
      rw [← hz] at HM1 HA1
      rw [← hu] at HA1 
      have HU := Lib.hid hu
      have i1 : (0 : Int) ≤ (j : Int) := by omega
      have i2 : (j : Int) < (L.length : Int) := by omega
      clear hy hz hu hc hi
      go_wp2_with fail
      go_quiet ((first | (go_at_call 93; exact HM1.out _) | (go_at_call 31; exact HA1.out _)))
      go_wp2
      go_roundw
      case rel => exact ⟨j, _, _, _, rfl, rfl, by omega, by omega, HU, rfl⟩
      case measure => simp [intOf]
theorem gat_nil (A : Option Addr) (c : Nat) (L : List Int) (x : Int) (w : World) (hl : L.length ≤ 4294967296) (hR : RdI w w.heap.size .u64 A L) :
    Calls Tryz.prog 66 #[.pointer none, .slice A L.length c, .int .u64 x] w fun r w' => r = .returned (.int .u64 0) ∧ ∃ n, w' = w.drewN n :=
  gat_any (.pointer none) A c L x w (fun _ => 0) (fun _ => 0) hl rfl hR (fun i hi n => (fmul_nil _ _ _).mono fun e w' ⟨he, hw⟩ => ⟨he, 0, hw.symm⟩) (fun i hi n => (fadd_nil _ _ _).mono fun e w' ⟨he, hw⟩ => ⟨he, 0, hw.symm⟩)
theorem gat_fd {p : Nat} [NeZero p] {w : World} {v : Value} {g : Int} (h : Fd w w.heap.size v p g) (A : Option Addr) (c : Nat) (L : List Int) (x : Int) (hx0 : 0 ≤ x) (hx : x ≤ 18446744073709551615) (hl : L.length ≤ 4294967296) (hU : U64s L) (hR : RdI w w.heap.size .u64 A L) :
    Calls Tryz.prog 66 #[v, .slice A L.length c, .int .u64 x] w fun r w' => r = .returned (.int .u64 ((ev (L.map (zt p)) (zt p x)).val : Int)) ∧ ∃ n, w' = w.drewN n := by
  have hpm := h.pmx
  have hv : ∀ y : Fin p, 0 ≤ ((y.val : Nat) : Int) ∧ ((y.val : Nat) : Int) ≤ 18446744073709551615 := fun y => by have := y.isLt; omega
  have h1 := gat_any v A c L x w (fun i => ((ev ((L.map (zt p)).drop (i + 1)) (zt p x) * zt p x : Fin p).val : Int)) (fun k => ((ev ((L.map (zt p)).drop (L.length - k)) (zt p x)).val : Int)) hl (by
    show (((ev ((L.map (zt p)).drop (L.length - 0)) (zt p x)).val : Nat) : Int) = 0
    rw [List.drop_of_length_le (by simp)]
    show (((0 : Fin p).val : Nat) : Int) = 0
    rw [← zt_zero, zt_val]; simp) hR (fun i hi n => by
      have h1 := fmul_fd (h.drewN n) ((ev ((L.map (zt p)).drop (i + 1)) (zt p x)).val : Int) x (hv _).1 (hv _).2 hx0 hx
      rw [ev_mul, zt_of_val] at h1
      show Calls _ _ #[v, .int .u64 ((ev ((L.map (zt p)).drop (L.length - (L.length - (i + 1)))) (zt p x)).val : Int), .int .u64 x] _ _
      rw [show L.length - (L.length - (i + 1)) = i + 1 by omega]
      exact h1) (fun i hi n => by
      have hu := hU.at hi
      have h1 := fadd_fd (h.drewN n) ((ev ((L.map (zt p)).drop (i + 1)) (zt p x) * zt p x : Fin p).val : Int) (L.getD i 0) (hv _).1 (hv _).2 hu.1 hu.2
      rw [ev_add, zt_of_val] at h1
      show Calls _ _ _ _ fun e w' => e = .returned (.int .u64 ((ev ((L.map (zt p)).drop (L.length - (L.length - i))) (zt p x)).val : Int)) ∧ _
      rw [show L.length - (L.length - i) = i by omega, List.drop_eq_getElem_cons (show i < (L.map (zt p)).length by simpa using hi)]
      have h2 : (L.map (zt p))[i]'(by simpa using hi) = zt p (L.getD i 0) := by simp [List.getD_eq_getElem?_getD, hi]
      rw [h2]
      have h3 : ev (zt p (L.getD i 0) :: (L.map (zt p)).drop (i + 1)) (zt p x) = ev ((L.map (zt p)).drop (i + 1)) (zt p x) * zt p x + zt p (L.getD i 0) := by
        show zt p (L.getD i 0) + zt p x * ev ((L.map (zt p)).drop (i + 1)) (zt p x) = _
        grind
      rw [h3]; exact h1)
  have h2 : (ev ((L.map (zt p)).drop (L.length - L.length)) (zt p x)).val = (ev (L.map (zt p)) (zt p x)).val := by rw [Nat.sub_self, List.drop_zero]
  rw [← h2]; exact h1
/-- What Derive answers: of any field, or none. -/
def derL {p : Nat} [NeZero p] (A : Nat → Fin p) (i : Nat) : Fin p := zt p ((i : Int) + 1) * A (i + 1)
theorem gder_nil (A : Option Addr) (c : Nat) (L : List Int) (w : World) (hl : L.length ≤ 4294967296) (hR : RdI w w.heap.size .u64 A L) :
    Calls Tryz.prog 65 #[.pointer none, .slice A L.length c] w fun r w' => ∃ V, r = .returned V ∧ OwnU w' w.heap.size V (L.length - 1) (List.replicate (L.length - 1) 0) ∧ Below w.heap.size w w' := by
  rcases Nat.lt_or_ge L.length 2 with h | h
  · have h1 := gder_short (.pointer none) A c L.length w h
    exact h1.mono fun e w' ⟨he, hw⟩ => ⟨_, he, by
      rw [show L.length - 1 = 0 by omega]
      exact World.ownsRow_nil _ _ _ _, by rw [← hw]; exact Below.refl _ _⟩
  · obtain ⟨m, hm⟩ : ∃ m, L.length = m + 1 := ⟨L.length - 1, by omega⟩
    have h1 := gder_any (.pointer none) A c L m w (fun _ => 0) hm (by omega) (by omega) hR (fun i hi wz hz => (fmul_nil _ _ _).mono fun e w' ⟨he, hw⟩ => ⟨he, 0, hw.symm⟩)
    have h2 : (full m fun _ => (0 : Int)) = List.replicate m 0 := by unfold full; simp [List.map_const']
    rw [h2] at h1
    rw [hm, Nat.add_sub_cancel]
    exact h1
theorem gder_fd {p : Nat} [NeZero p] {w : World} {v : Value} {g : Int} (h : Fd w w.heap.size v p g) (A : Option Addr) (c : Nat) (L : List Int) (hl : L.length ≤ 4294967296) (hU : U64s L) (hR : RdI w w.heap.size .u64 A L) :
    Calls Tryz.prog 65 #[v, .slice A L.length c] w fun r w' => ∃ V, r = .returned V ∧ OwnU w' w.heap.size V (L.length - 1) (lst (L.length - 1) (derL (rz p L))) ∧ Below w.heap.size w w' := by
  rcases Nat.lt_or_ge L.length 2 with h' | h'
  · have h1 := gder_short v A c L.length w h'
    exact h1.mono fun e w' ⟨he, hw⟩ => ⟨_, he, by
      rw [show L.length - 1 = 0 by omega]
      exact World.ownsRow_nil _ _ _ _, by rw [← hw]; exact Below.refl _ _⟩
  · obtain ⟨m, hm⟩ : ∃ m, L.length = m + 1 := ⟨L.length - 1, by omega⟩
    have h1 := gder_any v A c L m w (fun i => ((derL (rz p L) i).val : Int)) hm (by omega) (by omega) hR (fun i hi wz hz => by
      have hu := hU.at (k := i + 1) (by omega)
      have h1 := fmul_fd (h.below hz) ((i : Int) + 1) (L.getD (i + 1) 0) (by omega) (by omega) hu.1 hu.2
      rw [ev_mul] at h1
      exact h1)
    rw [hm, Nat.add_sub_cancel]
    exact h1
end Go.Proofs.YthhkljfgkihfgaaGreat
