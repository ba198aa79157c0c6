/- series: check, cut, mul, Mul. -/
import Derived.Test.YthhkljfgkihfgaaGreatLin
import Derived.Test.YthhkljfgkihfgaaGreatSerM
import Derived.Test.YthhkljfgkihfgaaGreatMakeN
import Derived.Laws.CopyOwn
set_option linter.unusedVariables false
set_option linter.unusedSimpArgs false
set_option linter.unusedSectionVars false
set_option linter.unusedVariables false
set_option linter.unusedSimpArgs false
namespace Go.Proofs.YthhkljfgkihfgaaGreat
open Go.RowKit
open Alg
/-- What is wrong with a length. -/
def schk (p n : Int) : Int := if n < 1 then 1 else if 512 < n then 13 else if fitR (pd (2 * n)) p = false then 4 else 0
theorem schk_zero {p n : Int} (h : schk p n = 0) : 1 ≤ n ∧ n ≤ 512 ∧ fitR (pd (2 * n)) p = true := by
  unfold schk at h
  split at h
  · omega
  · split at h
    · omega
    · split at h
      · omega
      · rename_i h3
        exact ⟨by omega, by omega, by simpa using h3⟩
theorem scheck_nil (n : Int) (w : World) : Calls Tryz.prog 104 #[.pointer none, .int .i64 n] w fun e w' => e = .returned (.int .i64 2) ∧ w = w' := by
  go_enter Tryz.func104, Tryz.ntmps104
  go_wp2
  go_ret
  exact ⟨rfl, rfl⟩
theorem scheck_fd {w : World} {B : Nat} {v : Value} {p g : Int} (h : Fd w B v p g) (n : Int) (h0 : -9223372036854775808 ≤ n) (h1 : n ≤ 9223372036854775807) :
    Calls Tryz.prog 104 #[v, .int .i64 n] w fun e w' => e = .returned (.int .i64 (schk p n)) ∧ w = w' := by
  have HF := Lib.hid h
  have hP := Lib.hid (fun m wz => pad2_any m wz)
  obtain ⟨b, c, t, o, s, sv, rfl, hb, hc, hF⟩ := h
  by_cases c1 : n < 1
  · have HV : Hid (schk p n = 1) := Lib.hid (by unfold schk; rw [if_pos c1])
    go_enter Tryz.func104, Tryz.ntmps104
    go_wp2
    go_ret
    exact ⟨ret_int HV.out.symm, rfl⟩
  · by_cases c2 : 512 < n
    · have HV : Hid (schk p n = 13) := Lib.hid (by unfold schk; rw [if_neg c1, if_pos c2])
      have t2 : decide (512 < n) = true := by simpa using c2
      go_enter Tryz.func104, Tryz.ntmps104
      go_wp2
      go_ret
      exact ⟨ret_int HV.out.symm, rfl⟩
    · have t1 : decide (n < 1) = false := by simpa using c1
      have t2 : decide (512 < n) = false := by simpa using c2
      obtain ⟨hq2, hq3, hq4, hq5⟩ := pd_spec (show 2 * n ≤ 4096 by omega)
      have hP2 := Lib.hid (fun wz => pad2_any (2 * n) wz (by omega) (by omega))
      have hDv : Hid (Calls Tryz.prog 94 #[.pointer (some ⟨b, 0, none⟩), .int .i64 (pd (2 * n))] w fun e w' => e = .returned (.bool (fitR (pd (2 * n)) p)) ∧ w = w') := Lib.hid (divides_fd HF.out (pd (2 * n)) (by omega) (by omega))
      have HV : Hid (schk p n = if fitR (pd (2 * n)) p = false then 4 else 0) := Lib.hid (by unfold schk; rw [if_neg c1, if_neg c2])
      obtain ⟨y, hy⟩ : ∃ y, y = fitR (pd (2 * n)) p := ⟨_, rfl⟩
      obtain ⟨z, hz⟩ : ∃ z, z = pd (2 * n) := ⟨_, rfl⟩
      rw [← hy, ← hz] at hDv
      rw [← hy] at HV
      rw [← hz] at hP2
      clear hy hz hq2 hq3 hq4 hq5 hP hF hc
      cases y
      · go_enter Tryz.func104, Tryz.ntmps104
        go_wp2_with fail
        refine (hP2.out _).mono ?_
        rintro e w1 ⟨rfl, rfl⟩
        go_wp2_with fail
        refine hDv.out.mono ?_
        rintro e w1 ⟨rfl, rfl⟩
        go_wp2
        go_ret
        exact ⟨by rw [HV.out]; first | rfl | simp, rfl⟩
      · go_enter Tryz.func104, Tryz.ntmps104
        go_wp2_with fail
        refine (hP2.out _).mono ?_
        rintro e w1 ⟨rfl, rfl⟩
        go_wp2_with fail
        refine hDv.out.mono ?_
        rintro e w1 ⟨rfl, rfl⟩
        go_wp2
        go_ret
        exact ⟨by rw [HV.out]; first | rfl | simp, rfl⟩
/-- The first numbers of a list, noughts behind those that there are. -/
def cutL (L : List Int) (n : Nat) : List Int := full n fun i => L.getD i 0
theorem cutL_length (L : List Int) (n : Nat) : (cutL L n).length = n := full_length _ _
theorem splice_cut (L : List Int) (n : Nat) : splice (ints .u64 (List.replicate n 0)) 0 (ints .u64 (L.take (Nat.min L.length n))) = ints .u64 (cutL L n) := by
  unfold splice
  apply List.ext_getElem
  · simp [ints, cutL, full]; omega
  · intro i h1 h2
    simp [ints, cutL, full] at h1 h2
    simp only [List.take_zero, List.nil_append, Nat.zero_add]
    by_cases h : i < L.length
    · rw [List.getElem_append_left (by simp [ints]; omega)]
      simp [ints, cutL, full, List.getD_eq_getElem?_getD, h]
    · rw [List.getElem_append_right (by simp [ints]; omega)]
      simp [ints, cutL, full, List.getD_eq_getElem?_getD, h]
set_option maxHeartbeats 1000000 in
theorem scut_any (A : Option Addr) (c : Nat) (L : List Int) (n : Nat) (w : World) (hl : L.length ≤ 140737488351232) (hn : n ≤ 4294967296) (hR : RdI w w.heap.size .u64 A L) :
    Calls Tryz.prog 108 #[.slice A L.length c, .int .i64 n] w fun r w' => ∃ V, r = .returned V ∧ OwnU w' w.heap.size V n (cutL L n) ∧ Below w.heap.size w w' := by
  obtain ⟨i0, hi, hz0, hz1, hz2⟩ := info_parts info_u64
  have hmk := makeU n hn
  have hsz : (Tryz.prog.info? 25).map (·.size) = some 1 := by rw [hi]; simp [hz1]
  have HSp := Lib.hid (splice_cut L n)
  have Hlen : Hid ((ints .u64 (L.take (Nat.min L.length n))).length = Nat.min L.length n) := Lib.hid (by
    rw [ints_length, List.length_take]
    show min (min L.length n) L.length = min L.length n
    omega)
  have HzL : Hid ((ints .u64 (List.replicate n 0)).length = n) := Lib.hid (by rw [ints_length, List.length_replicate])
  have Hcs : Hid (0 < (ints .u64 (L.take (Nat.min L.length n))).length → ∃ ad, A = some ad ∧ ∀ j v, (ints .u64 (L.take (Nat.min L.length n)))[j]? = some v → w.cell? (ad.add j) = some v) := Lib.hid (fun hp => by
    rw [Hlen.out] at hp
    have hlp : 0 < L.length := by
      have hp' : 0 < min L.length n := hp
      omega
    obtain ⟨b, o, rfl, hb, hc⟩ := hR hlp
    refine ⟨_, rfl, fun j v hv => rd_cells hc j v ?_⟩
    rw [← hv]
    have hj : j < (ints .u64 (L.take (Nat.min L.length n))).length := by
      rcases Nat.lt_or_ge j (ints .u64 (L.take (Nat.min L.length n))).length with h | h
      · exact h
      · rw [List.getElem?_eq_none h] at hv; cases hv
    simp only [ints, List.length_map, List.length_take] at hj
    simp only [ints, List.getElem?_map, List.getElem?_take]
    rw [if_pos (by omega)])
  have H1c : Hid (∀ v ∈ ints .u64 (L.take (Nat.min L.length n)), v.oneCell' = true) := Lib.hid (ints_one _)
  obtain ⟨cs, hcs⟩ : ∃ cs, cs = ints .u64 (L.take (Nat.min L.length n)) := ⟨_, rfl⟩
  rw [← hcs] at HSp Hlen Hcs H1c
  obtain ⟨zs, hzs⟩ : ∃ zs, zs = ints .u64 (List.replicate n 0) := ⟨_, rfl⟩
  rw [← hzs] at HSp HzL hmk
  have hB0 := (Below.refl w.heap.size w).alloc (Nat.le_refl _) (.cells zs.toArray 25)
  have hg0 : (w.alloc (.cells zs.toArray 25)).heap[w.heap.size]? = some (.cells zs.toArray 25 (0, 0)) := heap_alloc_new w _
  have Hg0 := Lib.hid hg0
  have Hcs2 : Hid (0 < cs.length → (some (⟨w.heap.size, 0, none⟩ : Addr)) = some ⟨w.heap.size, 0, none⟩ ∧ ∃ ad, A = some ad ∧ ∀ j v, cs[j]? = some v → (w.alloc (.cells zs.toArray 25)).cell? (ad.add j) = some v) := Lib.hid (fun hp => ⟨rfl, by
    obtain ⟨ad, h1, h2⟩ := Hcs.out hp
    exact ⟨ad, h1, fun j v hv => (hB0.cell (World.block_lt_of_cell? w _ (h2 j v hv))).trans (h2 j v hv)⟩⟩)
  have Hfit : Hid (0 + cs.length ≤ zs.length) := Lib.hid (by
    rw [Hlen.out, HzL.out]
    show 0 + min L.length n ≤ n
    omega)
  clear hcs hzs hg0 Hcs hR
  go_enter Tryz.func108, Tryz.ntmps108
  go_wp2_with (with_reducible refine wpList_copy_splice rfl _ _ 29 29 rfl 25 Tryz.underlying29 hsz (some ⟨w.heap.size, 0, none⟩) A n n L.length c rfl rfl w.heap.size 0 zs 25 Hg0.out cs Hlen.out Hcs2.out Hfit.out H1c.out w.heap.size w hB0 (Nat.le_refl _) ?_)
  intro w2 hg2 hB2
  rw [HSp.out] at hg2
  have HO : Hid (OwnU w2 w.heap.size (.slice (some ⟨w.heap.size, 0, none⟩) n n) n (cutL L n)) := Lib.hid (by
    unfold OwnU
    refine ⟨by rw [ints_length, cutL_length, Nat.mul_one], .inr ⟨w.heap.size, n, _, rfl, Nat.le_refl _, hg2.out, Nat.le_refl _, by unfold maxLen; omega, by simp [ints_length, cutL_length], ?_⟩⟩
    rw [List.take_of_length_le (by simp [ints_length, cutL_length])])
  clear hg2 Hg0 hB0 hmk
  go_wp2
  go_ret
  exact ⟨_, rfl, HO.out, hB2⟩
theorem cutL_good {p : Int} {L : List Int} {n : Nat} (h : goodB p L = true) (hp : 0 < p) : goodB p (cutL L n) = true := by
  unfold goodB at *
  rw [List.all_eq_true] at *
  intro x hx
  obtain ⟨i, hi, rfl⟩ := List.mem_map.1 hx
  rcases Nat.lt_or_ge i L.length with h1 | h1
  · have := h L[i] (List.getElem_mem h1)
    simpa [List.getD_eq_getElem?_getD, h1] using this
  · simp [List.getD_eq_getElem?_getD, List.getElem?_eq_none h1, hp]
theorem cutL_u64 {L : List Int} {n : Nat} (h : U64s L) : U64s (cutL L n) := fun x hx => by
  obtain ⟨i, hi, rfl⟩ := List.mem_map.1 hx
  rcases Nat.lt_or_ge i L.length with h1 | h1
  · have := h L[i] (List.getElem_mem h1)
    simpa [List.getD_eq_getElem?_getD, h1] using this
  · simp [List.getD_eq_getElem?_getD, List.getElem?_eq_none h1]
theorem cutL_get {L : List Int} {n i : Nat} (hi : i < n) : (cutL L n).getD i 0 = L.getD i 0 := full_get hi
/-- A length that fits twice as long fits. -/
theorem fit_half {p : Int} {n : Nat} (h1 : 1 ≤ n) (h2 : n ≤ 512) (h : fitR (pd (2 * (n : Int))) p = true) : fitR (pd ((n : Int) + (n : Int) - 1)) p = true := by
  rcases Nat.eq_or_lt_of_le h1 with e | e
  · subst e
    have : pd (((1 : Nat) : Int) + ((1 : Nat) : Int) - 1) = 1 := by decide
    rw [this]
    unfold fitR; simp
  · have : pd ((n : Int) + (n : Int) - 1) = pd (2 * (n : Int)) := by
      have hk : n ≤ 2 ∨ (2 < n ∧ n ≤ 4) ∨ (4 < n ∧ n ≤ 8) ∨ (8 < n ∧ n ≤ 16) ∨ (16 < n ∧ n ≤ 32) ∨ (32 < n ∧ n ≤ 64) ∨ (64 < n ∧ n ≤ 128) ∨ (128 < n ∧ n ≤ 256) ∨ (256 < n ∧ n ≤ 512) := by omega
      rcases hk with hk | hk | hk | hk | hk | hk | hk | hk | hk
      all_goals (unfold pd; (repeat rw [if_neg (show ¬ (4096 : Int) < _ by omega)]); (repeat rw [if_neg (by omega)]); (try rw [if_pos (by omega)]); (repeat rw [if_neg (by omega)]); (try rw [if_pos (by omega)]))
    rw [this]; exact h
/-- A list's residues, as a series. -/
theorem lcv_cut {p : Nat} [NeZero p] {L M : List Int} {n i : Nat} (hi : i < n) : lcv p (cutL L n) (cutL M n) i = cv (rz p L) (rz p M) i := by
  unfold lcv
  rw [cutL_length, cutL_length]
  refine sm_congr fun j hj => ?_
  rw [padz_in (by omega), padz_in (by omega)]
  unfold rz
  rw [cutL_get (by omega), cutL_get (by omega)]
set_option maxHeartbeats 2000000 in
theorem smul_any {p : Nat} [NeZero p] {w : World} {v : Value} {g : Int} (hp : Prime p) (hg : Ord (zt p g) (p - 1)) (g0 : 0 ≤ g) (g1 : g < p) (h : Fd w w.heap.size v p g) (AA AB : Option Addr) (cA cB : Nat) (L M : List Int) (n : Nat)
    (hl : L.length ≤ 140737488351232) (hm : M.length ≤ 140737488351232) (hU : U64s L) (hU' : U64s M) (hgA : goodB p L = true) (hgB : goodB p M = true) (hA : RdI w w.heap.size .u64 AA L) (hB : RdI w w.heap.size .u64 AB M) (h1 : 1 ≤ n) (h2 : n ≤ 512) (hft : fitR (pd (2 * (n : Int))) p = true) :
    Calls Tryz.prog 106 #[v, .slice AA L.length cA, .slice AB M.length cB, .int .i64 n] w fun r w' => ∃ V, r = .returned V ∧ OwnU w' w.heap.size V n (lst n (cv (rz p L) (rz p M))) ∧ Below w.heap.size w w' := by
  have HPM := Lib.hid (And.intro h.p3 h.pmx)
  have hC1 := Lib.hid (scut_any AA cA L n w hl (by omega) hA)
  have hC2 : Hid (∀ wz, Below w.heap.size w wz → Calls Tryz.prog 108 #[.slice AB M.length cB, .int .i64 n] wz fun r w' => ∃ V, r = .returned V ∧ OwnU w' wz.heap.size V n (cutL M n) ∧ Below wz.heap.size wz w') := Lib.hid (fun wz hz => scut_any AB cB M n wz hm (by omega) ((hB.below hz).mono hz.size))
  have hf : linf p (cutL L n) (cutL M n) = 0 := by
    unfold linf
    rw [cutL_length, cutL_length, if_neg (by omega), if_neg (by omega), if_neg (by rw [fit_half h1 h2 hft]; simp), if_neg (by rw [cutL_good hgA (by have := HPM.out.1; omega), cutL_good hgB (by have := HPM.out.1; omega)]; simp)]
  have hLn : Hid (∀ wz (XA XB : Option Addr) (dA dB : Nat), Below w.heap.size w wz → RdI wz wz.heap.size .u64 XA (cutL L n) → RdI wz wz.heap.size .u64 XB (cutL M n) → Calls Tryz.prog 135 #[v, .slice XA n dA, .slice XB n dB] wz fun r w' => ∃ G, r = .returned (.tuple #[.slice (some ⟨G, 0, none⟩) (n + n - 1 : Nat) (n + n - 1 : Nat), .int .i64 0]) ∧ wz.heap.size ≤ G ∧ G < w'.heap.size ∧
      (∀ i, i < n + n - 1 → w'.cell? ⟨G, i, none⟩ = some (.int .u64 ((lcv p (cutL L n) (cutL M n) i).val : Int))) ∧ Below wz.heap.size wz w') := Lib.hid (fun wz XA XB dA dB hz hXA hXB => by
    have h1 := lin_yes hp hg g0 g1 ((h.below hz).mono hz.size) XA XB dA dB (cutL L n) (cutL M n) (cutL_u64 hU) (cutL_u64 hU') hXA hXB hf
    rw [cutL_length, cutL_length] at h1
    exact h1)
  have hCv : Hid (∀ i, i < n → lcv p (cutL L n) (cutL M n) i = cv (rz p L) (rz p M) i) := Lib.hid (fun i hi => lcv_cut hi)
  obtain ⟨D, hD⟩ : ∃ D : Nat → Fin p, D = lcv p (cutL L n) (cutL M n) := ⟨_, rfl⟩
  rw [← hD] at hLn hCv
  obtain ⟨m, hm2⟩ : ∃ m, m = n + n - 1 := ⟨_, rfl⟩
  rw [← hm2] at hLn
  have hnm : n ≤ m := by omega
  have hmb : m ≤ 1023 := by omega
  clear h hU hU' hgA hgB hA hB hft hf hD hm2 hp hg
  go_enter Tryz.func106, Tryz.ntmps106
  go_wp2_with fail
  refine hC1.out.mono ?_
  rintro e w1 ⟨V1, rfl, hO1, hB1⟩
  have HO1 := Lib.hid hO1
  clear hO1
  go_wp2_with fail
  refine (hC2.out w1 hB1).mono ?_
  rintro e w2 ⟨V2, rfl, hO2, hB2⟩
  have hBx := hB1.trans (hB2.mono hB1.size)
  obtain ⟨X1, c1, rfl, hR1⟩ := (HO1.out.below hB2).rd
  obtain ⟨X2, c2, rfl, hR2⟩ := hO2.rd
  have hL2 := Lib.hid (hLn.out w2 X1 X2 c1 c2 hBx hR1 hR2)
  clear hO2 HO1 hR1 hR2 hB1 hB2 hC1 hC2 hLn
  go_wp2_with fail
  refine hL2.out.mono ?_
  rintro e w3 ⟨G, rfl, hG1, hG2, hcG, hB3⟩
  have hBy := hBx.trans (hB3.mono hBx.size)
  have hR3 : RdI w3 w3.heap.size .u64 (some ⟨G, 0, none⟩) (lst m D) := fun _ => ⟨G, 0, rfl, hG2, fun j hj => by
    rw [lst_length] at hj
    rw [lst_get hj, Nat.zero_add]; exact hcG j hj⟩
  have hC3 := scut_any (some ⟨G, 0, none⟩) m (lst m D) n w3 (by rw [lst_length]; omega) (by omega) hR3
  have he : cutL (lst m D) n = lst n (cv (rz p L) (rz p M)) := full_congr fun i hi => by rw [lst_get (by omega), hCv.out i hi]
  rw [lst_length, he] at hC3
  have HC3 := Lib.hid hC3
  have HBy := Lib.hid hBy
  clear hR3 hC3 he hcG hBx hB3 hBy hCv hL2
  go_wp2_with fail
  refine HC3.out.mono ?_
  rintro e w4 ⟨V4, rfl, hO4, hB4⟩
  have HO4 := Lib.hid (hO4.mono HBy.out.size)
  have HBf := Lib.hid (HBy.out.trans (hB4.mono HBy.out.size))
  clear hO4
  go_wp2
  go_ret
  exact ⟨_, rfl, HO4.out, HBf.out⟩
theorem gMul_nil (A B : Option Addr) (c d m k : Nat) (n : Int) (w : World) : Calls Tryz.prog 62 #[.pointer none, .slice A m c, .slice B k d, .int .i64 n] w fun e w' => e = .returned (.tuple #[.slice none 0 0, .int .i64 2]) ∧ w = w' := by
  go_enter Tryz.func62, Tryz.ntmps62
  go_wp2_with fail
  refine (scheck_nil _ _).mono ?_
  rintro e w1 ⟨rfl, rfl⟩
  go_wp2
  go_ret2
  exact ⟨rfl, rfl⟩
/-- Which error, of two series. -/
def sf2 (p n : Int) (L M : List Int) : Int := if schk p n ≠ 0 then schk p n else if (goodB p L && goodB p M) = false then 9 else 0
def sf1 (p n : Int) (L : List Int) : Int := if schk p n ≠ 0 then schk p n else if goodB p L = false then 9 else 0
theorem sf2_zero {p n : Int} {L M : List Int} (h : sf2 p n L M = 0) : schk p n = 0 ∧ goodB p L = true ∧ goodB p M = true := by
  unfold sf2 at h
  split at h
  · rename_i h1; exact absurd h h1
  · rename_i h1
    split at h
    · omega
    · rename_i h2
      simp only [Bool.not_eq_false, Bool.and_eq_true] at h2
      exact ⟨by simpa using h1, h2.1, h2.2⟩
theorem sf1_zero {p n : Int} {L : List Int} (h : sf1 p n L = 0) : schk p n = 0 ∧ goodB p L = true := by
  unfold sf1 at h
  split at h
  · rename_i h1; exact absurd h h1
  · rename_i h1
    split at h
    · omega
    · rename_i h2
      exact ⟨by simpa using h1, by simpa using h2⟩
theorem gMul_no {p : Nat} {w : World} {v : Value} {g : Int} (h : Fd w w.heap.size v p g) (AA AB : Option Addr) (cA cB : Nat) (L M : List Int) (n : Int) (h0 : -9223372036854775808 ≤ n) (h1 : n ≤ 9223372036854775807)
    (hl : L.length ≤ 140737488351232) (hm : M.length ≤ 140737488351232) (hU : U64s L) (hU' : U64s M) (hA : RdI w w.heap.size .u64 AA L) (hB : RdI w w.heap.size .u64 AB M) (hf : sf2 p n L M ≠ 0) :
    Calls Tryz.prog 62 #[v, .slice AA L.length cA, .slice AB M.length cB, .int .i64 n] w fun e w' => e = .returned (.tuple #[.slice none 0 0, .int .i64 (sf2 p n L M)]) ∧ w = w' := by
  have hC := Lib.hid (scheck_fd h n h0 h1)
  have hG1 := Lib.hid (good_fd h AA cA w.heap.size L hl hU hA)
  have hG2 := Lib.hid (good_fd h AB cB w.heap.size M hm hU' hB)
  have HV : Hid (sf2 p n L M = if schk p n ≠ 0 then schk p n else if (goodB p L && goodB p M) = false then 9 else 0) := Lib.hid rfl
  have HN := Lib.hid hf
  clear h hU hU' hA hB hf
  by_cases c1 : schk p n = 0
  · rw [c1] at hC
    have HV2 : Hid (sf2 p n L M = 9) := Lib.hid (by
      have h1 := HN.out
      rw [HV.out, if_neg (by simp [c1])] at h1 ⊢
      split at h1
      · rw [if_pos ‹_›]
      · exact absurd rfl h1)
    have hne : (goodB p L && goodB p M) = false := by
      have h1 := HN.out
      rw [HV.out, if_neg (by simp [c1])] at h1
      split at h1
      · assumption
      · exact absurd rfl h1
    obtain ⟨a, ha⟩ : ∃ a, a = goodB p L := ⟨_, rfl⟩
    obtain ⟨b, hb⟩ : ∃ b, b = goodB p M := ⟨_, rfl⟩
    rw [← ha] at hG1 hne
    rw [← hb] at hG2 hne
    clear c1 ha hb
    cases a
    · go_enter Tryz.func62, Tryz.ntmps62
      go_wp2_with fail
      refine hC.out.mono ?_
      rintro e w1 ⟨rfl, rfl⟩
      go_wp2_with fail
      refine hG1.out.mono ?_
      rintro e w1 ⟨rfl, rfl⟩
      go_wp2
      go_ret2
      exact ⟨by rw [HV2.out]; first | rfl | simp, rfl⟩
    · obtain rfl : b = false := by simpa using hne
      go_enter Tryz.func62, Tryz.ntmps62
      go_wp2_with fail
      refine hC.out.mono ?_
      rintro e w1 ⟨rfl, rfl⟩
      go_wp2_with fail
      refine hG1.out.mono ?_
      rintro e w1 ⟨rfl, rfl⟩
      go_wp2_with fail
      refine hG2.out.mono ?_
      rintro e w1 ⟨rfl, rfl⟩
      go_wp2
      go_ret2
      exact ⟨by rw [HV2.out]; first | rfl | simp, rfl⟩
  · have HV2 : Hid (sf2 p n L M = schk p n) := Lib.hid (by rw [HV.out, if_pos c1])
    obtain ⟨z, hz⟩ : ∃ z, z = schk p n := ⟨_, rfl⟩
    rw [← hz] at hC HV2 c1
    have t : (z != 0) = true := by simp [c1]
    clear hz c1
    go_enter Tryz.func62, Tryz.ntmps62
    go_wp2_with fail
    refine hC.out.mono ?_
    rintro e w1 ⟨rfl, rfl⟩
    go_wp2
    go_ret2
    exact ⟨by rw [HV2.out]; first | rfl | simp, rfl⟩
theorem gMul_yes {p : Nat} [NeZero p] {w : World} {v : Value} {g : Int} (hp : Prime p) (hg : Ord (zt p g) (p - 1)) (g0 : 0 ≤ g) (g1 : g < p) (h : Fd w w.heap.size v p g) (AA AB : Option Addr) (cA cB : Nat) (L M : List Int) (n : Nat)
    (hl : L.length ≤ 140737488351232) (hm : M.length ≤ 140737488351232) (hU : U64s L) (hU' : U64s M) (hA : RdI w w.heap.size .u64 AA L) (hB : RdI w w.heap.size .u64 AB M) (hf : sf2 p n L M = 0) :
    Calls Tryz.prog 62 #[v, .slice AA L.length cA, .slice AB M.length cB, .int .i64 n] w fun e w' => ∃ V, e = .returned (.tuple #[V, .int .i64 0]) ∧ OwnU w' w.heap.size V n (lst n (cv (rz p L) (rz p M))) ∧ Below w.heap.size w w' := by
  obtain ⟨hs, hg1, hg2⟩ := sf2_zero hf
  obtain ⟨n1, n2, hft⟩ := schk_zero hs
  have hC := Lib.hid (scheck_fd h n (by omega) (by omega))
  rw [hs] at hC
  have hG1 := Lib.hid (good_fd h AA cA w.heap.size L hl hU hA)
  have hG2 := Lib.hid (good_fd h AB cB w.heap.size M hm hU' hB)
  rw [hg1] at hG1
  rw [hg2] at hG2
  have hM := Lib.hid (smul_any hp hg g0 g1 h AA AB cA cB L M n hl hm hU hU' hg1 hg2 hA hB (by omega) (by omega) hft)
  clear h hU hU' hA hB hf hs hg1 hg2 hft hp hg
  go_enter Tryz.func62, Tryz.ntmps62
  go_wp2_with fail
  refine hC.out.mono ?_
  rintro e w1 ⟨rfl, rfl⟩
  go_wp2_with fail
  refine hG1.out.mono ?_
  rintro e w1 ⟨rfl, rfl⟩
  go_wp2_with fail
  refine hG2.out.mono ?_
  rintro e w1 ⟨rfl, rfl⟩
  go_wp2_with fail
  refine hM.out.mono ?_
  rintro e w1 ⟨V, rfl, hO, hB1⟩
  have HO := Lib.hid hO
  clear hO
  go_wp2
  go_ret2
  exact ⟨_, rfl, HO.out, hB1⟩
end Go.Proofs.YthhkljfgkihfgaaGreat
