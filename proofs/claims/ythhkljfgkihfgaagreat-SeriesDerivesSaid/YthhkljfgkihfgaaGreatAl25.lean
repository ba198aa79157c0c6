/- The law's first check: alive, of layer 25; great. -/
import Derived.Test.YthhkljfgkihfgaaGreatSm17
import Derived.Test.YthhkljfgkihfgaaGreatSerD
import Derived.Test.YthhkljfgkihfgaaGreatSame25
set_option linter.unusedVariables false
set_option linter.unusedSimpArgs false
set_option linter.unusedSectionVars false
set_option linter.unusedVariables false
set_option linter.unusedSimpArgs false
namespace Go.Proofs.YthhkljfgkihfgaaGreat
open Go.RowKit
open Alg
theorem inv_unique {p : Nat} [NeZero p] {n : Nat} {A U V : Nat → Fin p} (h : Eqn n (cv A U) uno) (h' : Eqn n (cv A V) uno) : Eqn n U V := by
  have h1 : Eqn n (cv U (cv A V)) (cv U uno) := cv_eqn (Eqn.refl _ _) h'
  have h2 : Eqn n (cv (cv A U) V) (cv uno V) := cv_eqn h (Eqn.refl _ _)
  rw [cv_uno, ← cv_assoc, cv_comm U A] at h1
  rw [uno_cv] at h2
  exact h1.symm.trans h2
theorem one_set {p : Nat} [NeZero p] (hp : 2 ≤ p) {n : Nat} : (List.replicate n (0 : Int)).set 0 1 = lst n (uno : Nat → Fin p) := by
  rw [← cut_one hp]
  unfold cutL full
  apply List.ext_getElem
  · simp
  · intro i h1 h2
    simp only [List.getElem_set, List.getElem_replicate, List.getElem_map, List.getElem_range]
    rcases i with _ | i
    · rfl
    · rw [if_neg (by omega), List.getD_eq_getElem?_getD, List.getElem?_eq_none (by simp)]; rfl
theorem alive25_inv : ∀ i, i < 4 → cv (rz 97 [1, 96]) (fun _ => 1) i = uno i := by decide +kernel
theorem alive25_lst (U : Nat → Fin 97) (h : Eqn 4 (cv (rz 97 [1, 96]) U) uno) : lst 4 U = [1, 1, 1, 1] := by
  rw [lst_eqn (inv_unique h alive25_inv)]
  decide +kernel
theorem alive25_mul : lst 4 (cv (rz 97 [1, 1]) (rz 97 [1, 1])) = [1, 2, 1, 0] := by decide +kernel
theorem alive25_i : sfi 97 4 [1, 96] = 0 := by decide +kernel
theorem alive25_m : sf2 97 4 [1, 1] [1, 1] = 0 := by decide +kernel
theorem alive25_any (w : World) : Calls Tryz.prog 53 #[] w fun e w' => e = .returned (.bool true) ∧ Below w.heap.size w w' := by
  go_enter Tryz.func53, Tryz.ntmps53
  go_wp2_with fail
  refine (small_at 97 5 gen97 oddP97 w).mono ?_
  rintro r w1 ⟨v, rfl, hC, hF, hB1⟩
  have HC : Hid (Ord (zt 97 5) (97 - 1)) := Lib.hid ((Cert.nat (q := 97) hC).2)
  have HF := Lib.hid hF
  clear hC hF
  go_wp2_with fail
  have hL1 := RdU.lit w1 [1, 96]
  have hB2 := (Below.refl w1.heap.size w1).alloc (Nat.le_refl _) (.cells (ints .u64 [1, 96]).toArray 25)
  have hBw := hB1.trans (hB2.mono hB1.size)
  have hsz : (w1.alloc (.cells (ints .u64 [1, 96]).toArray 25)).heap.size = w1.heap.size + 1 := by simp
  have hF2 := (HF.out.below hB2).mono hB2.size
  have hR := ginv_yes (p := 97) prime97 HC.out (by omega) (by omega) hF2 (some ⟨w1.heap.size, 0, none⟩) 2 [1, 96] 4 (by decide) (fun x hx => by simp at hx; omega) (by rw [hsz]; exact hL1) alive25_i
  refine hR.mono ?_
  rintro r w2 ⟨V, U, rfl, hO, hE, hB3⟩
  rw [alive25_lst U hE] at hO
  have hB3' := hB2.trans (hB3.mono hB2.size)
  have hBz := hBw.trans (hB3.mono hBw.size)
  have HF2 := Lib.hid ((HF.out.below hB3').mono hB3'.size)
  have HO := Lib.hid hO
  clear hL1 hB2 hBw hF2 hR hO hE hB3 hB1
  go_wp2_with fail
  have hB4 := (Below.refl w2.heap.size w2).alloc (Nat.le_refl _) (.cells (ints .u64 [1, 1]).toArray 25)
  have hs4 : (w2.alloc (.cells (ints .u64 [1, 1]).toArray 25)).heap.size = w2.heap.size + 1 := by simp
  have hB5' := (Below.refl (w2.alloc (.cells (ints .u64 [1, 1]).toArray 25)).heap.size (w2.alloc (.cells (ints .u64 [1, 1]).toArray 25))).alloc (Nat.le_refl _) (.cells (ints .u64 [1, 1]).toArray 25)
  have hB5 := hB4.trans (hB5'.mono hB4.size)
  have hs5 : ((w2.alloc (.cells (ints .u64 [1, 1]).toArray 25)).alloc (.cells (ints .u64 [1, 1]).toArray 25)).heap.size = w2.heap.size + 1 + 1 := by simp
  have hLa := ((RdU.lit w2 [1, 1]).below (by rw [hs4] at hB5'; exact hB5')).mono (show w2.heap.size + 1 ≤ ((w2.alloc (.cells (ints .u64 [1, 1]).toArray 25)).alloc (.cells (ints .u64 [1, 1]).toArray 25)).heap.size by rw [hs5]; omega)
  have hLb := RdU.lit (w2.alloc (.cells (ints .u64 [1, 1]).toArray 25)) [1, 1]
  rw [hs4] at hLb
  have hF2 := (HF2.out.below hB5).mono hB5.size
  have hR := gMul_yes (p := 97) prime97 HC.out (by omega) (by omega) hF2 (some ⟨w2.heap.size, 0, none⟩) (some ⟨w2.heap.size + 1, 0, none⟩) 2 2 [1, 1] [1, 1] 4 (by decide) (by decide) (fun x hx => by simp at hx; omega) (fun x hx => by simp at hx; omega) hLa (by rw [hs5]; exact hLb) alive25_m
  refine hR.mono ?_
  rintro r w3 ⟨V3, rfl, hO3, hB6⟩
  rw [alive25_mul] at hO3
  have hB6' := hB5.trans (hB6.mono hB5.size)
  have hBy := hBz.trans (hB6'.mono hBz.size)
  have hO1 := HO.out.below hB6'
  obtain ⟨A, c, rfl, hRd⟩ := hO1.rd
  obtain ⟨A3, c3, rfl, hRd3⟩ := hO3.rd
  clear hB4 hs4 hB5' hB5 hs5 hLa hLb hF2 hR hB6 hB6' hO1 hO3 HF2 HO hBz
  go_wp2_with fail
  have hL2 := RdU.lit w3 [1, 1, 1, 1]
  have hB4 := (Below.refl w3.heap.size w3).alloc (Nat.le_refl _) (.cells (ints .u64 [1, 1, 1, 1]).toArray 25)
  refine (same_any A (some ⟨w3.heap.size, 0, none⟩) c 4 (w3.heap.size + 1) [1, 1, 1, 1] [1, 1, 1, 1] _ (by simp) (by simp) ((hRd.below hB4).mono (Nat.le_succ _)) hL2).mono ?_
  rintro r w4 ⟨rfl, hB5⟩
  have hB7 := hB4.trans (hB5.mono hB4.size)
  have hBf := hBy.trans (hB7.mono hBy.size)
  have hRd4 := (hRd3.below hB7).mono hB7.size
  clear hL2 hB4 hRd hRd3 hB5 hB7 hBy
  go_wp2_with fail
  have hL2 := RdU.lit w4 [1, 2, 1, 0]
  have hB4 := (Below.refl w4.heap.size w4).alloc (Nat.le_refl _) (.cells (ints .u64 [1, 2, 1, 0]).toArray 25)
  refine (same_any A3 (some ⟨w4.heap.size, 0, none⟩) c3 4 (w4.heap.size + 1) [1, 2, 1, 0] [1, 2, 1, 0] _ (by simp) (by simp) ((hRd4.below hB4).mono (Nat.le_succ _)) hL2).mono ?_
  rintro r w5 ⟨rfl, hB5⟩
  have hB7 := hB4.trans (hB5.mono hB4.size)
  have hBg := hBf.trans (hB7.mono hBf.size)
  clear hL2 hB4 hRd4 hB5 hB7 hBf
  go_wp2
  go_ret
  exact ⟨by first | rfl | simp, hBg⟩
/-- More than is played. -/
def grt (ls : List Nat) (n : Int) : Bool := ls.any (fun k => decide (60 < k)) || (decide (40 < n) && decide (n ≤ 512))
theorem great25_any (b c : Nat) (es : List (Option Addr × Nat × Nat)) (n : Int) (w : World) (hk : es.length ≤ 4)
    (hc : ∀ i e, es[i]? = some e → w.cell? ⟨b, i, none⟩ = some (.slice e.1 e.2.2 e.2.1) ∧ e.2.2 ≤ 140737488351232) :
    Calls Tryz.prog 54 #[.slice (some ⟨b, 0, none⟩) es.length c, .int .i64 n] w fun e w' => e = .returned (.bool (grt (es.map fun e => e.2.2) n)) ∧ w = w' := by
  have HC := Lib.hid hc
  clear hc
  have HV : Hid (grt (es.map fun e => e.2.2) n = ((es.map fun e => e.2.2).any (fun k => decide (60 < k)) || (decide (40 < n) && decide (n ≤ 512)))) := Lib.hid rfl
  go_enter Tryz.func54, Tryz.ntmps54
  go_wp2
  go_loopw [9] (fun I wr => ∃ i : Nat, I = .int .i64 i ∧ i ≤ es.length ∧ Hid (((es.map fun e => e.2.2).take i).any (fun k => decide (60 < k)) = false) ∧ wr = w) (fun I _ => es.length - (intOf I).toNat)
  case atStart => exact ⟨0, rfl, by omega, Lib.hid (by simp), rfl⟩
  case round =>
    obtain ⟨i, rfl, hi, hall, rfl⟩ := hrel
    by_cases hlt : i < es.length
    · obtain ⟨e, he⟩ : ∃ e, es[i]? = some e := ⟨_, List.getElem?_eq_getElem hlt⟩
      obtain ⟨d, hl⟩ := HC.out i e he
      obtain ⟨A, cA, m⟩ := e
      have hgi : (es.map fun e => e.2.2)[i]? = some m := by rw [List.getElem?_map, he]; rfl
      have HGI := Lib.hid hgi
      clear hgi he
      simp only at d hl
      by_cases hm : 60 < m
      · have HV3 : Hid (grt (es.map fun e => e.2.2) n = true) := Lib.hid (by
          rw [HV.out, Bool.or_eq_true]
          exact .inl (List.any_eq_true.2 ⟨m, List.mem_of_getElem? HGI.out, by simpa using hm⟩))
        have tm : decide ((60 : Int) < (m : Int)) = true := decide_eq_true (by omega)
        go_wp2
        go_ret
        exact ⟨by rw [HV3.out]; first | rfl | simp, rfl⟩
      · have HA : Hid (((es.map fun e => e.2.2).take (i + 1)).any (fun k => decide (60 < k)) = false) := Lib.hid (by
          rw [List.take_add_one, HGI.out, List.any_append, hall.out]; simp; omega)
        have tm : decide ((60 : Int) < (m : Int)) = false := decide_eq_false (by omega)
        go_wp2
        go_roundw
        case rel => exact ⟨i + 1, by go_num, by omega, HA, by first | rfl | trivial⟩
        case measure => simp [intOf]; omega
    · have hie : i = es.length := by omega
      have HV3 : Hid (grt (es.map fun e => e.2.2) n = (decide (40 < n) && decide (n ≤ 512))) := Lib.hid (by
        have h1 := hall.out
        rw [hie, List.take_of_length_le (by simp)] at h1
        rw [HV.out, h1]; rfl)
      by_cases c1 : 40 < n
      · have t1 : decide (40 < n) = true := decide_eq_true c1
        rw [t1] at HV3
        obtain ⟨z, hz⟩ : ∃ z, z = decide (n ≤ 512) := ⟨_, rfl⟩
        rw [← hz] at HV3
        have hz' := hz.symm
        clear hz
        go_wp2
        go_ret
        exact ⟨by rw [HV3.out]; first | rfl | simp, rfl⟩
      · have t1 : decide (40 < n) = false := decide_eq_false c1
        rw [t1] at HV3
        go_wp2
        go_ret
        exact ⟨by rw [HV3.out]; first | rfl | simp, rfl⟩
end Go.Proofs.YthhkljfgkihfgaaGreat
