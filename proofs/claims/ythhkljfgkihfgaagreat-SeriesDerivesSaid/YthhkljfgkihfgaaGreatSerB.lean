/- series: Inverse, Divide, Power. -/
import Derived.Test.YthhkljfgkihfgaaGreatSerA
import Derived.Test.YthhkljfgkihfgaaGreatRowsA
import Derived.Test.YthhkljfgkihfgaaGreatWR2UR2D
set_option linter.unusedVariables false
set_option linter.unusedSimpArgs false
set_option linter.unusedSectionVars false
set_option linter.unusedVariables false
set_option linter.unusedSimpArgs false
namespace Go.Proofs.YthhkljfgkihfgaaGreat
open Go.RowKit
open Alg
theorem fneg_fd {w : World} {B : Nat} {v : Value} {p g : Int} (h : Fd w B v p g) (x : Int) (hx0 : 0 ≤ x) (hx : x ≤ 18446744073709551615) :
    Calls Tryz.prog 107 #[v, .int .u64 x] w fun e w' => e = .returned (.int .u64 ((-x) % p)) ∧ ∃ n, w' = w.drewN n := by
  obtain ⟨b, c, t, o, s, sv, rfl, hb, hc, hF⟩ := h
  have f0 := hF.f0
  go_enter Tryz.func107, Tryz.ntmps107
  go_wp2_with fail
  refine (mneg_any hF.ctx x hx0 hx).mono ?_
  rintro e w1 ⟨rfl, n1, rfl⟩
  go_wp2
  go_ret
  exact ⟨rfl, _, rfl⟩
theorem pd_dvd {a b : Int} (ha : a ≤ b) (hb : b ≤ 4096) : ∃ k : Int, pd b = pd a * k := by
  obtain ⟨a1, a2, a3, a4⟩ := pd_spec (show a ≤ 4096 by omega)
  obtain ⟨b1, b2, b3, b4⟩ := pd_spec hb
  have hle : pd a ≤ pd b := by
    have hc : ∀ m : Int, m ≤ 4096 → (pd m = 1 ∨ 2 * m > pd m ∧ 1 < m) := fun m hm => by
      rcases (show m ≤ 1 ∨ (1 < m ∧ m ≤ 2) ∨ (2 < m ∧ m ≤ 4) ∨ (4 < m ∧ m ≤ 8) ∨ (8 < m ∧ m ≤ 16) ∨ (16 < m ∧ m ≤ 32) ∨ (32 < m ∧ m ≤ 64) ∨ (64 < m ∧ m ≤ 128) ∨ (128 < m ∧ m ≤ 256) ∨ (256 < m ∧ m ≤ 512) ∨ (512 < m ∧ m ≤ 1024) ∨ (1024 < m ∧ m ≤ 2048) ∨ (2048 < m ∧ m ≤ 4096) by omega) with h | h | h | h | h | h | h | h | h | h | h | h | h
      · exact .inl (by unfold pd; rw [if_neg (by omega), if_pos (by omega)])
      all_goals (refine .inr ⟨?_, by omega⟩; unfold pd; (repeat rw [if_neg (by omega)]); (try rw [if_pos (by omega)]); omega)
    rcases hc a (by omega) with h | ⟨h, h'⟩
    · omega
    · obtain ⟨na, hna⟩ : ∃ n : Nat, (n : Int) = pd a := ⟨(pd a).toNat, by omega⟩
      obtain ⟨nb, hnb⟩ : ∃ n : Nat, (n : Int) = pd b := ⟨(pd b).toNat, by omega⟩
      rw [← hna] at a1 h a2
      rw [← hnb] at b1 b2
      obtain ⟨i, hi, rfl⟩ := pow2_of a1
      obtain ⟨j, hj, rfl⟩ := pow2_of b1
      rcases Nat.lt_or_ge j i with hji | hji
      · exfalso
        have h1 : 2 ^ (j + 1) ≤ 2 ^ i := Nat.pow_le_pow_right (by omega) hji
        rw [Nat.pow_succ] at h1
        omega
      · have h1 : 2 ^ i ≤ 2 ^ j := Nat.pow_le_pow_right (by omega) hji
        omega
  obtain ⟨na, hna⟩ : ∃ n : Nat, (n : Int) = pd a := ⟨(pd a).toNat, by omega⟩
  obtain ⟨nb, hnb⟩ : ∃ n : Nat, (n : Int) = pd b := ⟨(pd b).toNat, by omega⟩
  rw [← hna] at a1 hle ⊢
  rw [← hnb] at b1 hle ⊢
  obtain ⟨i, hi, rfl⟩ := pow2_of a1
  obtain ⟨j, hj, rfl⟩ := pow2_of b1
  have hij : i ≤ j := by
    rcases Nat.lt_or_ge j i with hji | hji
    · exfalso
      have h1 : 2 ^ j < 2 ^ i := Nat.pow_lt_pow_right (by omega) hji
      omega
    · exact hji
  refine ⟨((2 ^ (j - i) : Nat) : Int), ?_⟩
  rw [← Int.natCast_mul, ← Nat.pow_add, show i + (j - i) = j by omega]
theorem fit_mono {p : Int} {m n : Nat} (h1 : 1 ≤ m) (h : m ≤ n) (hn : n ≤ 512) (hf : fitR (pd (2 * (n : Int))) p = true) : fitR (pd (2 * (m : Int))) p = true := by
  obtain ⟨k, hk⟩ := pd_dvd (show 2 * (m : Int) ≤ 2 * (n : Int) by omega) (show 2 * (n : Int) ≤ 4096 by omega)
  obtain ⟨_, _, a3, _⟩ := pd_spec (show 2 * (m : Int) ≤ 4096 by omega)
  unfold fitR at *
  simp only [Bool.and_eq_true, decide_eq_true_eq, beq_iff_eq] at *
  refine ⟨by omega, ?_⟩
  have h2 := hf.2
  rw [hk] at h2
  exact Int.emod_eq_zero_of_dvd (Int.dvd_trans ⟨k, rfl⟩ (Int.dvd_of_emod_eq_zero h2))
theorem rz_pad {p : Nat} [NeZero p] (k : Nat) (U : Nat → Fin p) : rz p (lst k U) = padz k U := by
  funext i
  rcases Nat.lt_or_ge i k with h | h
  · rw [rz_lst h, padz_in h]
  · rw [padz_out h]
    unfold rz
    rw [List.getD_eq_getElem?_getD, List.getElem?_eq_none (by rw [lst_length]; exact h)]
    exact zt_zero
theorem pad_eqn {p : Nat} [NeZero p] (k : Nat) (U : Nat → Fin p) : Eqn k (padz k U) U := fun i hi => padz_in hi
theorem ginv_nil (A : Option Addr) (c m : Nat) (n : Int) (w : World) : Calls Tryz.prog 56 #[.pointer none, .slice A m c, .int .i64 n] w fun e w' => e = .returned (.tuple #[.slice none 0 0, .int .i64 2]) ∧ w = w' := by
  go_enter Tryz.func56, Tryz.ntmps56
  go_wp2_with fail
  refine (scheck_nil _ _).mono ?_
  rintro e w1 ⟨rfl, rfl⟩
  go_wp2
  go_ret2
  exact ⟨rfl, rfl⟩
/-- Which error, of what is to be inverted. -/
def sfi (p n : Int) (L : List Int) : Int := if sf1 p n L ≠ 0 then sf1 p n L else if L.getD 0 0 = 0 then 14 else 0
theorem sfi_zero {p n : Int} {L : List Int} (h : sfi p n L = 0) : sf1 p n L = 0 ∧ L.getD 0 0 ≠ 0 ∧ 0 < L.length := by
  unfold sfi at h
  split at h
  · rename_i h1; exact absurd h h1
  · rename_i h1
    split at h
    · omega
    · rename_i h2
      refine ⟨by simpa using h1, h2, ?_⟩
      rcases Nat.eq_zero_or_pos L.length with h3 | h3
      · exfalso
        have := List.eq_nil_of_length_eq_zero h3
        subst this
        exact h2 rfl
      · exact h3
theorem ginv_no {p : Nat} {w : World} {v : Value} {g : Int} (h : Fd w w.heap.size v p g) (A : Option Addr) (c : Nat) (L : List Int) (n : Int) (h0 : -9223372036854775808 ≤ n) (h1 : n ≤ 9223372036854775807)
    (hl : L.length ≤ 140737488351232) (hU : U64s L) (hA : RdI w w.heap.size .u64 A L) (hf : sfi p n L ≠ 0) :
    Calls Tryz.prog 56 #[v, .slice A L.length c, .int .i64 n] w fun e w' => e = .returned (.tuple #[.slice none 0 0, .int .i64 (sfi p n L)]) ∧ w = w' := by
  have hC := Lib.hid (scheck_fd h n h0 h1)
  have hG1 := Lib.hid (good_fd h A c w.heap.size L hl hU hA)
  have HV : Hid (sfi p n L = if schk p n ≠ 0 then schk p n else if goodB p L = false then 9 else if L.getD 0 0 = 0 then 14 else 0) := Lib.hid (by
    unfold sfi sf1
    by_cases c1 : schk p n = 0
    · by_cases c2 : goodB p L = false
      · simp [c1, c2]
      · simp [c1, c2]
    · simp [c1])
  have HN := Lib.hid hf
  have HA := Lib.hid hA
  clear h hU hA hf
  by_cases c1 : schk p n = 0
  · rw [c1] at hC
    by_cases c2 : goodB p L = false
    · have HV2 : Hid (sfi p n L = 9) := Lib.hid (by rw [HV.out, if_neg (by simp [c1]), if_pos c2])
      rw [c2] at hG1
      clear c1 c2
      go_enter Tryz.func56, Tryz.ntmps56
      go_wp2_with fail
      refine hC.out.mono ?_
      rintro e w1 ⟨rfl, rfl⟩
      go_wp2_with fail
      refine hG1.out.mono ?_
      rintro e w1 ⟨rfl, rfl⟩
      go_wp2
      go_ret2
      exact ⟨by rw [HV2.out]; first | rfl | simp, rfl⟩
    · have c2' : goodB p L = true := by simpa using c2
      have c3 : L.getD 0 0 = 0 := by
        have h1 := HN.out
        rw [HV.out, if_neg (by simp [c1]), if_neg c2] at h1
        split at h1
        · assumption
        · exact absurd rfl h1
      have HV2 : Hid (sfi p n L = 14) := Lib.hid (by rw [HV.out, if_neg (by simp [c1]), if_neg c2, if_pos c3])
      rw [c2'] at hG1
      rcases Nat.eq_zero_or_pos L.length with hz | hz
      · have t1 : ((L.length : Int) == 0) = true := by simp [hz]
        clear c1 c2 c2' c3 hz
        go_enter Tryz.func56, Tryz.ntmps56
        go_wp2_with fail
        refine hC.out.mono ?_
        rintro e w1 ⟨rfl, rfl⟩
        go_wp2_with fail
        refine hG1.out.mono ?_
        rintro e w1 ⟨rfl, rfl⟩
        go_wp2
        go_ret2
        exact ⟨by rw [HV2.out]; first | rfl | simp, rfl⟩
      · have t1 : ((L.length : Int) == 0) = false := beq_eq_false_iff_ne.2 (by omega)
        obtain ⟨b, o, rfl, hb, hc⟩ := HA.out hz
        have d := hc 0 hz
        rw [c3, Nat.add_zero] at d
        clear c1 c2 c2' c3 hc
        go_enter Tryz.func56, Tryz.ntmps56
        go_wp2_with fail
        refine hC.out.mono ?_
        rintro e w1 ⟨rfl, rfl⟩
        go_wp2_with fail
        refine hG1.out.mono ?_
        rintro e w1 ⟨rfl, rfl⟩
        go_wp2
        go_ret2
        exact ⟨by rw [HV2.out]; first | rfl | simp, rfl⟩
  · have HV2 : Hid (sfi p n L = schk p n) := Lib.hid (by rw [HV.out, if_pos c1])
    obtain ⟨z, hz⟩ : ∃ z, z = schk p n := ⟨_, rfl⟩
    rw [← hz] at hC HV2 c1
    have t : (z != 0) = true := by simp [c1]
    clear hz c1
    go_enter Tryz.func56, Tryz.ntmps56
    go_wp2_with fail
    refine hC.out.mono ?_
    rintro e w1 ⟨rfl, rfl⟩
    go_wp2
    go_ret2
    exact ⟨by rw [HV2.out]; first | rfl | simp, rfl⟩
/-- The row behind i of the numbers turned. -/
def nrow {p : Nat} [NeZero p] (k : Nat) (X : Nat → Fin p) (i : Nat) : List Int := lst k fun j => if j < i then -X j else X j
theorem nrow_zero {p : Nat} [NeZero p] (k : Nat) (X : Nat → Fin p) : lst k X = nrow k X 0 := lst_congr fun i _ => by rw [if_neg (by omega)]
theorem nrow_full {p : Nat} [NeZero p] (k : Nat) (X : Nat → Fin p) : nrow k X k = lst k fun j => -X j := lst_congr fun i hi => by rw [if_pos hi]
theorem nrow_step {p : Nat} [NeZero p] {k i : Nat} {X : Nat → Fin p} (hi : i < k) : (nrow k X i).set i (((-X i : Fin p).val : Nat) : Int) = nrow k X (i + 1) := by
  unfold nrow lst full
  apply List.ext_getElem
  · simp
  · intro j hj hj'
    simp at hj'
    simp only [List.getElem_set, List.getElem_map, List.getElem_range]
    by_cases e : i = j
    · subst e; rw [if_pos rfl, if_pos (by omega)]
    · rw [if_neg e]
      by_cases h : j < i
      · rw [if_pos h, if_pos (by omega)]
      · rw [if_neg h, if_neg (by omega)]
theorem nrow_at {p : Nat} [NeZero p] {k i : Nat} {X : Nat → Fin p} (hi : i < k) : (nrow k X i).getD i 0 = ((X i).val : Int) := by
  unfold nrow
  rw [lst_get hi, if_neg (by omega)]
theorem two_set {p : Nat} [NeZero p] {k : Nat} {X : Nat → Fin p} (hk : 0 < k) : (lst k fun j => -X j).set 0 (((-X 0 + 2 : Fin p).val : Nat) : Int) = lst k fun i => 2 * uno i - X i := by
  unfold lst full
  apply List.ext_getElem
  · simp
  · intro j hj hj'
    simp only [List.getElem_set, List.getElem_map, List.getElem_range]
    by_cases e : 0 = j
    · subst e
      rw [if_pos rfl]
      have : -X 0 + 2 = 2 * uno 0 - X 0 := by unfold uno; rw [if_pos rfl]; grind
      rw [this]
    · rw [if_neg e]
      have : -X j = 2 * uno j - X j := by unfold uno; rw [if_neg (Ne.symm e)]; grind
      rw [this]
theorem ev_neg {p : Nat} [NeZero p] (x : Int) : (-x) % (p : Int) = ((-zt p x : Fin p).val : Int) := by rw [← zt_neg, zt_val]
theorem zt_two {p : Nat} [NeZero p] : zt p 2 = 2 := by
  have h1 := zt_add (p := p) 1 1
  rw [zt_one] at h1
  rw [show (2 : Int) = 1 + 1 by decide, h1]; grind
/-- The smaller one, as the machine finds it. -/
def mnI (x y : Int) : Int := if y < x then y else x
theorem mnI_eq {x y : Nat} : mnI x y = ((min x y : Nat) : Int) := by
  unfold mnI
  split <;> omega
@[go_sem ↓] theorem min_two (ats : Array TypeId) (ty : TypeId) (k k' : IntKind) (x y : Int) : Builtin.min_ ats ty #[.int k x, .int k' y] = pure (.int k (mnI x y)) := rfl
set_option maxHeartbeats 4000000 in
set_option maxRecDepth 100000 in
theorem ginv_yes {p : Nat} [NeZero p] {w : World} {v : Value} {g : Int} (hp : Prime p) (hg : Ord (zt p g) (p - 1)) (g0 : 0 ≤ g) (g1 : g < p) (h : Fd w w.heap.size v p g) (A : Option Addr) (c : Nat) (L : List Int) (n : Nat)
    (hl : L.length ≤ 140737488351232) (hU : U64s L) (hA : RdI w w.heap.size .u64 A L) (hf : sfi p n L = 0) :
    Calls Tryz.prog 56 #[v, .slice A L.length c, .int .i64 n] w fun e w' => ∃ V U, e = .returned (.tuple #[V, .int .i64 0]) ∧ OwnU w' w.heap.size V n (lst n U) ∧ Eqn n (cv (rz p L) U) uno ∧ Below w.heap.size w w' := by
  obtain ⟨hf1, hne, hl0⟩ := sfi_zero hf
  obtain ⟨hs, hgd⟩ := sf1_zero hf1
  obtain ⟨n1, n2, hft⟩ := schk_zero hs
  have HPM := Lib.hid (And.intro h.p3 h.pmx)
  have HF := Lib.hid h
  have hC := Lib.hid (scheck_fd h n (by omega) (by omega))
  rw [hs] at hC
  have hG1 := Lib.hid (good_fd h A c w.heap.size L hl hU hA)
  rw [hgd] at hG1
  obtain ⟨bA, oA, rfl, hbA, hcA⟩ := hA hl0
  have d0 := hcA 0 hl0
  rw [Nat.add_zero] at d0
  have hr0 : 0 ≤ L.getD 0 0 ∧ L.getD 0 0 < p := by
    have h1 := lst_get (f := rz p L) hl0
    rw [lst_rz hgd hU] at h1
    have := (rz p L 0).isLt
    omega
  have HIv : Hid (∀ wz, Below w.heap.size w wz → Calls Tryz.prog 105 #[v, .int .u64 (L.getD 0 0)] wz fun e w' => ∃ t : Int, 0 ≤ t ∧ t < p ∧ zt p t * zt p (L.getD 0 0) = 1 ∧ e = .returned (.int .u64 t) ∧ ∃ k, w' = wz.drewN k) := Lib.hid (fun wz hz =>
    (finv_fd (h.below hz) (L.getD 0 0) hr0.1 (by have := HPM.out.2; omega)).mono fun e w' ⟨hd, t, he, ht⟩ => ⟨t, (ht.range (by have := HPM.out.1; omega)).1, (ht.range (by have := HPM.out.1; omega)).2, ht.unit hp (fun h0 => hne (by
      rw [← zt_zero, zt_eq, Int.emod_eq_of_lt hr0.1 hr0.2] at h0
      simpa using h0)), he, hd⟩)
  have HM : Hid (∀ (k : Nat) wz (X Y : Option Addr) (cX cY : Nat) (P Q : List Int), 1 ≤ k → k ≤ n → Below w.heap.size w wz → P.length ≤ 140737488351232 → Q.length ≤ 140737488351232 → U64s P → U64s Q → goodB p P = true → goodB p Q = true → RdI wz wz.heap.size .u64 X P → RdI wz wz.heap.size .u64 Y Q →
      Calls Tryz.prog 106 #[v, .slice X P.length cX, .slice Y Q.length cY, .int .i64 k] wz fun r w' => ∃ V, r = .returned V ∧ OwnU w' wz.heap.size V k (lst k (cv (rz p P) (rz p Q))) ∧ Below wz.heap.size wz w') := Lib.hid (fun k wz X Y cX cY P Q hk hkn hz hP hQ uP uQ gP gQ rP rQ =>
    smul_any hp hg g0 g1 ((HF.out.below hz).mono hz.size) X Y cX cY P Q k hP hQ uP uQ gP gQ rP rQ hk (by omega) (fit_mono hk hkn (by omega) hft))
  have HML : Hid (∀ (k m : Nat) (U : Nat → Fin p) wz (V : Value) (B : Nat), 1 ≤ k → k ≤ n → m ≤ n → Below w.heap.size w wz → OwnU wz B V m (lst m U) → ∃ Y cY, V = .slice Y m cY ∧
      Calls Tryz.prog 106 #[v, .slice (some ⟨bA, oA, none⟩) L.length c, .slice Y m cY, .int .i64 k] wz fun r w' => ∃ V, r = .returned V ∧ OwnU w' wz.heap.size V k (lst k (cv (rz p L) (padz m U))) ∧ Below wz.heap.size wz w') := Lib.hid (fun k m U wz V B hk hkn hmn hz hV => by
    obtain ⟨Y, cY, rfl, hR⟩ := hV.rd
    refine ⟨Y, cY, rfl, ?_⟩
    have h1 := HM.out k wz (some ⟨bA, oA, none⟩) Y c cY L (lst m U) hk hkn hz hl (by rw [lst_length]; omega) hU (lst_u64 HPM.out.2 _ _) hgd (lst_good _ _) (fun _ => ⟨bA, oA, rfl, Nat.lt_of_lt_of_le hbA hz.size, fun j hj => cell_keep hz hbA (hcA j hj)⟩) hR
    rw [lst_length, rz_pad] at h1
    exact h1)
  have HMU : Hid (∀ (k m : Nat) (U W : Nat → Fin p) wz (V V' : Value) (B B' : Nat), 1 ≤ k → k ≤ n → m ≤ n → Below w.heap.size w wz → OwnU wz B V m (lst m U) → OwnU wz B' V' k (lst k W) →
      Calls Tryz.prog 106 #[v, V, V', .int .i64 k] wz fun r w' => ∃ V, r = .returned V ∧ OwnU w' wz.heap.size V k (lst k (cv (padz m U) (padz k W))) ∧ Below wz.heap.size wz w') := Lib.hid (fun k m U W wz V V' B B' hk hkn hmn hz hV hV' => by
    obtain ⟨Y, cY, rfl, hR⟩ := hV.rd
    obtain ⟨Z, cZ, rfl, hS⟩ := hV'.rd
    have h1 := HM.out k wz Y Z cY cZ (lst m U) (lst k W) hk hkn hz (by rw [lst_length]; omega) (by rw [lst_length]; omega) (lst_u64 HPM.out.2 _ _) (lst_u64 HPM.out.2 _ _) (lst_good _ _) (lst_good _ _) hR hS
    rw [lst_length, lst_length, rz_pad, rz_pad] at h1
    exact h1)
  have ha0 : rz p L 0 = zt p (L.getD 0 0) := rfl
  have HA0 := Lib.hid ha0
  have t1 : ((L.length : Int) == 0) = false := beq_eq_false_iff_ne.2 (by omega)
  have t2 : (L.getD 0 0 == 0) = false := by simpa using hne
  obtain ⟨y0, hy0⟩ : ∃ y, y = L.getD 0 0 := ⟨_, rfl⟩
  rw [← hy0] at d0 HIv t2 HA0
  have n1' : 1 ≤ n := by omega
  have n2' : n ≤ 512 := by omega
  clear h hcA hf hf1 hs hgd hft hne hr0 ha0 hy0 hp hg hU HM n1 n2
  go_enter Tryz.func56, Tryz.ntmps56
  go_wp2_with fail
  refine hC.out.mono ?_
  rintro e w1 ⟨rfl, rfl⟩
  go_wp2_with fail
  refine hG1.out.mono ?_
  rintro e w1 ⟨rfl, rfl⟩
  go_wp2_with fail
  refine (HIv.out w (Below.refl _ _)).mono ?_
  rintro e w1 ⟨t, t0, tp, htu, rfl, k1, rfl⟩
  have HTU := Lib.hid htu
  clear htu
  go_upto_region 9 with fail
  have hO1 : OwnU ((w.drewN k1).alloc (.cells (ints .u64 [t]).toArray 25)) w.heap.size (.slice (some ⟨w.heap.size, 0, none⟩) 1 1) 1 (lst 1 fun _ => zt p t) := by
    have h1 := own_lit (w.drewN k1) w.heap.size 1 [t] rfl (Nat.le_refl _) (by omega)
    have h2 : (lst 1 fun _ => zt p t) = [t] := by
      show [((zt p t).val : Int)] = [t]
      rw [zt_range t0 tp]
    rw [h2]; exact h1
  have hB1 : Below w.heap.size w ((w.drewN k1).alloc (.cells (ints .u64 [t]).toArray 25)) := (below_drewN (Below.refl w.heap.size w) k1).alloc (Nat.le_refl _) _
  have HB1 := Lib.hid hB1
  have HO1 := Lib.hid hO1
  have HE1 : Hid (Eqn 1 (cv (rz p L) fun _ => zt p t) uno) := Lib.hid (fun i hi => by
    obtain rfl : i = 0 := by omega
    show sm 1 _ = uno 0
    rw [sm_succ, sm_zero, HA0.out, Nat.sub_self]
    have := HTU.out
    unfold uno; rw [if_pos rfl]; grind)
  clear hO1 hB1
  go_wp2
  go_loopw [9, 10] (fun V I wr => ∃ (k : Nat) (U : Nat → Fin p) (Vv : Value), Vv = V ∧ I = .int .i64 k ∧ 1 ≤ k ∧ k ≤ n ∧ Hid (OwnU wr w.heap.size Vv k (lst k U)) ∧ Hid (Eqn k (cv (rz p L) U) uno) ∧ Hid (Below w.heap.size w wr)) (fun _ I _ => n - (intOf I).toNat)
  case atStart => exact ⟨1, _, _, rfl, rfl, by omega, by omega, HO1, HE1, HB1⟩
  case round =>
    clear HO1 HE1 HB1
    obtain ⟨k, U, Vv, rfl, rfl, k0, kn, hO, hE, hBr⟩ := hrel
    by_cases hlt : k < n
    · obtain ⟨Gv, cGv, rfl, hGv⟩ := own_form hO.out k0
      have hGl : Gv < wr.heap.size := by
        obtain ⟨A', c', hA', hR'⟩ := hO.out.rd
        obtain ⟨b', o', hb', hlt', _⟩ := hR' (by rw [lst_length]; omega)
        cases hA'
        cases hb'
        exact hlt'
      obtain ⟨Z, cZ, hZ, hC1⟩ := HML.out (min (2 * k) n) k U wr (.slice (some ⟨Gv, 0, none⟩) k cGv) w.heap.size (by omega) (by omega) kn hBr.out hO.out
      cases hZ
      have HC1 := Lib.hid hC1
      have e1 : mnI (2 * (k : Int)) (n : Int) = ((min (2 * k) n : Nat) : Int) := by rw [← mnI_eq]; norm_cast
      obtain ⟨m, hm⟩ : ∃ m, m = min (2 * k) n := ⟨_, rfl⟩
      rw [← hm] at HC1 e1
      have km : k < m := by omega
      have mk2 : m ≤ 2 * k := by omega
      have mn : m ≤ n := by omega
      clear hC1 hm
      go_wp2_with fail
      refine HC1.out.mono ?_
      rintro e w2 ⟨V2, rfl, hO2, hB2⟩
      obtain ⟨G, cG, rfl, hGB⟩ := own_form hO2 (by omega)
      have hB2r := hBr.out.trans (hB2.mono hBr.out.size)
      have HB2 := Lib.hid hB2r
      obtain ⟨X, hX⟩ : ∃ X : Nat → Fin p, X = cv (rz p L) (padz k U) := ⟨_, rfl⟩
      rw [← hX] at hO2
      rw [nrow_zero] at hO2
      have HO2 := Lib.hid hO2
      have HO := Lib.hid (hO.out.below hB2)
      have hne : Gv ≠ G := by omega
      have hGB' : w.heap.size ≤ G := Nat.le_trans hBr.out.size hGB
      have HO2 := Lib.hid (HO2.out.mono hBr.out.size)
      clear hO2 hB2 hB2r hBr hO HC1
      go_wp2
      go_loopw [55] (fun I wr => ∃ i : Nat, I = .int .i64 i ∧ i ≤ m ∧ Hid (OwnU wr w.heap.size (.slice (some ⟨G, 0, none⟩) m cG) m (nrow m X i)) ∧ Hid (OwnU wr w.heap.size (.slice (some ⟨Gv, 0, none⟩) k cGv) k (lst k U)) ∧ Hid (Below w.heap.size w wr)) (fun I _ => m - (intOf I).toNat)
      case atStart => exact ⟨0, rfl, by omega, HO2, HO, HB2⟩
      case round =>
        clear HO2 HO HB2
        obtain ⟨i, rfl, him, hOr, hOv, hBw⟩ := hrel
        by_cases hi : i < m
        · obtain ⟨c1, f1, _⟩ := own_set hOr.out i hi
          rw [nrow_at hi] at c1
          have hx0 : 0 ≤ ((X i).val : Int) ∧ ((X i).val : Int) ≤ 18446744073709551615 := by
            have := (X i).isLt; have := HPM.out.2; omega
          have hN1 := fneg_fd (HF.out.below hBw.out) ((X i).val : Int) hx0.1 hx0.2
          rw [ev_neg, zt_of_val] at hN1
          have hst := nrow_step (X := X) hi
          obtain ⟨x0, hx0'⟩ : ∃ x0, x0 = X i := ⟨_, rfl⟩
          rw [← hx0'] at c1 hN1 hst
          obtain ⟨z0, hz0⟩ : ∃ z0, z0 = -x0 := ⟨_, rfl⟩
          rw [← hz0] at hN1 hst
          have HN1 := Lib.hid hN1
          have HST := Lib.hid hst
          have i1 : (0 : Int) ≤ (i : Int) := by omega
          have i2 : (i : Int) < (m : Int) := by omega
          clear hx0 hN1 hst hx0' hz0
          go_wp2_with fail
          refine HN1.out.mono ?_
          rintro e w3 ⟨rfl, q, rfl⟩
          have c2 : (wr.drewN q).cell? ⟨G, i, none⟩ = some (.int .u64 (x0.val : Int)) := c1
          have f2 : (wr.drewN q).frozen? ⟨G, i, none⟩ = false := f1
          have hO3 := ((hOr.out.drewN q).set i hi (z0.val : Int)).1
          rw [HST.out] at hO3
          have HO3 := Lib.hid hO3
          have HB3 : Hid (Below w.heap.size w ((wr.drewN q).setCell ⟨G, i, none⟩ (.int .u64 (z0.val : Int)))) := Lib.hid ((below_drewN hBw.out q).setCell hGB' _)
          have HOv := Lib.hid (own_other (o := i) (hOv.out.drewN q) hne (.int .u64 (z0.val : Int)))
          clear hO3 hOr hBw c1 f1 hOv
          go_wp2
          go_roundw
          case rel => exact ⟨i + 1, by go_num, by omega, HO3, HOv, HB3⟩
          case measure => simp [intOf]; omega
        · have hie : i = m := by omega
          have hO3 := hOr.out
          rw [hie, nrow_full] at hO3
          have hm0 : 0 < m := by omega
          obtain ⟨c1, f1, _⟩ := own_set hO3 0 hm0
          rw [lst_get hm0] at c1
          have hx0 : 0 ≤ ((-X 0 : Fin p).val : Int) ∧ ((-X 0 : Fin p).val : Int) ≤ 18446744073709551615 := by
            have := (-X 0 : Fin p).isLt; have := HPM.out.2; omega
          have hN1 := fadd_fd (HF.out.below hBw.out) ((-X 0 : Fin p).val : Int) 2 hx0.1 hx0.2 (by omega) (by omega)
          rw [ev_add, zt_of_val, zt_two] at hN1
          have hst := two_set (X := X) hm0
          obtain ⟨x0, hx0'⟩ : ∃ x0, x0 = -X 0 := ⟨_, rfl⟩
          rw [← hx0'] at c1 hN1 hst
          obtain ⟨z0, hz0⟩ : ∃ z0, z0 = x0 + 2 := ⟨_, rfl⟩
          rw [← hz0] at hN1 hst
          have HN1 := Lib.hid hN1
          have HST := Lib.hid hst
          have HO3 := Lib.hid hO3
          have i1 : (0 : Int) < (m : Int) := by omega
          clear hx0 hN1 hst hx0' hz0 hO3 hOr
          subst hie
          go_wp2_with fail
          refine HN1.out.mono ?_
          rintro e w3 ⟨rfl, q, rfl⟩
          have c2 : (wr.drewN q).cell? ⟨G, 0, none⟩ = some (.int .u64 (x0.val : Int)) := c1
          have f2 : (wr.drewN q).frozen? ⟨G, 0, none⟩ = false := f1
          have hO3 := ((HO3.out.drewN q).set 0 hm0 (z0.val : Int)).1
          rw [HST.out] at hO3
          have hB3 : Below w.heap.size w ((wr.drewN q).setCell ⟨G, 0, none⟩ (.int .u64 (z0.val : Int))) := (below_drewN hBw.out q).setCell hGB' _
          have hOv3 := own_other (o := 0) (hOv.out.drewN q) hne (.int .u64 (z0.val : Int))
          have HN2 := Lib.hid (HMU.out i k U _ _ _ _ _ _ (by omega) (by omega) kn hB3 hOv3 hO3)
          have HB3 := Lib.hid hB3
          clear hO3 HO3 hOv hBw c1 f1 hB3 hOv3
          go_wp2_with fail
          refine HN2.out.mono ?_
          rintro e w4 ⟨V4, rfl, hO4, hB4⟩
          have HO4 := Lib.hid (hO4.mono HB3.out.size)
          have HB4 := Lib.hid (HB3.out.trans (hB4.mono HB3.out.size))
          have HE4 : Hid (Eqn i (cv (rz p L) (cv (padz k U) (padz i fun j => 2 * uno j - X j))) uno) := Lib.hid (by
            refine newton (k := k) ((cv_eqn (Eqn.refl _ _) (pad_eqn k U)).trans hE.out) mk2 ?_
            rw [← hX]
            exact pad_eqn i _)
          clear hO4 hB4 HN2 HB3
          go_wp2
          go_roundw
          case rel => exact ⟨i, _, _, rfl, rfl, by omega, by omega, HO4, HE4, HB4⟩
          case measure => simp [intOf]; omega
    · obtain rfl : k = n := by omega
      go_wp2
      go_ret2
      exact ⟨_, _, rfl, hO.out, hE.out, hBr.out⟩
end Go.Proofs.YthhkljfgkihfgaaGreat
