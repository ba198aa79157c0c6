/- The row of a prime is right: plain. -/
import Derived.Test.YtgdadkkiefkimaaGreatWMapsGather
import Derived.Test.YtgdadkkiefkimaaGreatWSortSorted
import Derived.Test.YtgdadkkiefkimaaGreatWClaimFieldDivides
set_option linter.unusedVariables false
set_option linter.unusedSimpArgs false
set_option linter.unusedSectionVars false
namespace Go.Proofs.YtgdadkkiefkimaaGreat
open Go.RowKit
open Alg

theorem prodI_upP (fs : List (Nat × Nat)) : prodI (upP fs) = (prodF fs : Int) := by
  induction fs with
  | nil => rfl
  | cons x fs ih =>
    have : upP (x :: fs) = ((x.1 : Int), (x.2 : Int)) :: upP fs := rfl
    rw [this]
    simp [prodI, prodF, ih]
theorem upP_get (fs : List (Nat × Nat)) {k : Nat} (hk : k < fs.length) : (upP fs).getD k (0, 0) = ((fs[k].1 : Int), (fs[k].2 : Int)) := by
  simp [upP, List.getD_eq_getElem?_getD, List.getElem?_eq_getElem hk]
theorem upP_length (fs : List (Nat × Nat)) : (upP fs).length = fs.length := by simp [upP]
theorem pow_dvd {n : Nat} {fs : List (Nat × Nat)} (h : IsFac n fs) {x : Nat × Nat} (hx : x ∈ fs) : x.1 ^ x.2 ∣ n := by
  rw [← h.prod]
  clear h
  induction fs with
  | nil => cases hx
  | cons y t ih =>
    simp only [prodF]
    rcases List.mem_cons.1 hx with rfl | hx
    · exact Nat.dvd_mul_right _ _
    · exact Nat.dvd_trans (ih hx) (Nat.dvd_mul_left _ _)
theorem good_ok {e : Ent} (h : GoodE e) : EntOk e := by
  obtain ⟨q, g, fs, rfl, hq, h3, h6, hG, hF⟩ := h
  have hg := hG.lt hq h3
  have hlen : fs.length ≤ 32 := by
    have h1 := Alg.len_le hF.each (Nat.le_of_eq hF.prod)
    have h2 := (Nat.pow_le_pow_iff_right (a := 2) (by omega)).1 (show 2 ^ fs.length ≤ 2 ^ 32 by omega)
    omega
  refine ⟨by show (0 : Int) ≤ q; omega, by show (q : Int) ≤ _; omega, by show (0 : Int) ≤ g; omega, by show (g : Int) ≤ _; omega, by show (upP fs).length ≤ _; rw [upP_length]; omega, fun x hx => ?_⟩
  obtain ⟨y, hy, rfl⟩ := List.mem_map.1 hx
  have h1 := Nat.le_of_dvd (by omega) (hF.dvd hy)
  have h2 := pow_dvd hF hy
  have h3' : 2 ^ y.2 ≤ y.1 ^ y.2 := Nat.pow_le_pow_left (hF.each y hy).1.1 _
  have h4 := Nat.le_of_dvd (by omega) h2
  have h5 := (Nat.pow_le_pow_iff_right (a := 2) (by omega)).1 (show 2 ^ y.2 ≤ 2 ^ 16 by omega)
  show (0 : Int) ≤ y.1 ∧ (y.1 : Int) ≤ _ ∧ _ ≤ (y.2 : Int) ∧ (y.2 : Int) ≤ _
  omega

/-- The row's entries: each one of N, in the order of F. -/
structure RowE (N es : List Ent) (F : Nat → Int) (n : Nat) : Prop where
  len : es.length = n
  each : ∀ j, j < n → es.getD j Ent.none ∈ N ∧ (es.getD j Ent.none).p = F j
theorem row_right {N es : List Ent} {F : Nat → Int} (hI : InsI (N.map (·.p)) N.length N.length F) (hnd : (N.map (·.p)).Nodup) (hN : ∀ e ∈ N, GoodE e ∧ Clo N e) (h12 : N.length ≤ 12) (hE : RowE N es F N.length) : AllRight es := by
  have hFn := hI.perm.nodup_iff.2 hnd
  have hlt : ∀ a b, a < b → b < N.length → F a < F b := fun a b hab hb => by
    have h1 := hI.rise a b hab hb
    have h2 : F a ≠ F b := fun e => by
      have := List.pairwise_map.1 hFn
      have h3 := List.pairwise_iff_getElem.1 this a b (by simpa using (by omega : a < N.length)) (by simpa using hb) hab
      simp at h3
      exact h3 e
    omega
  refine ⟨by rw [hE.len]; omega, fun j hj => ?_⟩
  rw [hE.len] at hj
  obtain ⟨hm, hpF⟩ := hE.each j hj
  obtain ⟨hg, hc⟩ := hN _ hm
  generalize hej : es.getD j Ent.none = e at *
  obtain ⟨q, g, fs, rfl, hq, h3, h6, hG, hF⟩ := hg
  have hgl := hG.lt hq h3
  have hq2 : q % 2 = 1 := by
    rcases Nat.mod_two_eq_zero_or_one q with h | h
    · rcases hq.2 2 (Nat.dvd_of_mod_eq_zero h) with h' | h' <;> omega
    · exact h
  have hlen : 2 ^ fs.length ≤ q - 1 := Alg.len_le hF.each (Nat.le_of_eq hF.prod)
  have hlen16 : fs.length ≤ 16 := (Nat.pow_le_pow_iff_right (a := 2) (by omega)).1 (show 2 ^ fs.length ≤ 2 ^ 16 by omega)
  have h2mem : ∃ e, (2, e) ∈ fs := hF.mem ⟨by omega, fun d hd => by have := Nat.le_of_dvd (by omega) hd; have := Nat.pos_of_dvd_of_pos hd (by omega); omega⟩ (Nat.dvd_of_mod_eq_zero (by omega))
  have hpos : 0 < fs.length := by obtain ⟨e, he⟩ := h2mem; exact List.length_pos_of_mem he
  have hrise : ∀ a b (ha : a < fs.length) (hb : b < fs.length), a < b → fs[a].1 < fs[b].1 := fun a b ha hb hab => List.pairwise_iff_getElem.1 hF.rise a b ha hb hab
  have h0 : fs[0].1 = 2 := by
    obtain ⟨e, he⟩ := h2mem
    obtain ⟨k, hk, hke⟩ := List.getElem_of_mem he
    rcases Nat.eq_zero_or_pos k with h | h
    · subst h; rw [hke]
    · have h1 := hrise 0 k hpos hk h
      rw [hke] at h1
      have := (hF.each _ (List.getElem_mem hpos)).1.1
      simp at h1; omega
  have hget : ∀ k (hk : k < fs.length), (upP fs).getD k (0, 0) = ((fs[k].1 : Int), (fs[k].2 : Int)) := fun k hk => upP_get fs hk
  haveI : NeZero q := ⟨by omega⟩
  have hone := (hG.ord hq h3)
  refine ⟨by show (q : Int) % 2 = 1; omega, by show (3 : Int) ≤ q; omega, by show (q : Int) < _; omega, by show (2 : Int) ≤ g; have := hG.1; omega, by show (g : Int) < q; omega, ?_, ?_, ?_⟩
  · intro hl
    rw [List.length_take, hE.len] at hl ⊢
    have hmin : min j N.length = j := by omega
    rw [hmin] at hl ⊢
    have e1 : (es.take j).getD (j - 1) Ent.none = es.getD (j - 1) Ent.none := by
      simp [List.getD_eq_getElem?_getD, List.getElem?_take, show j - 1 < j by omega]
    rw [e1, (hE.each (j - 1) (by omega)).2]
    show F (j - 1) < (q : Int)
    have h4 : (q : Int) = F j := hpF
    rw [h4]
    exact hlt _ _ (by omega) hj
  · refine ⟨by show 1 ≤ (upP fs).length; rw [upP_length]; omega, by show (upP fs).length ≤ 16; rw [upP_length]; exact hlen16, by show ((upP fs).getD 0 (0, 0)).1 = 2; rw [hget 0 hpos]; show (fs[0].1 : Int) = 2; omega, fun k hk => ?_, fun k hk => ?_, ?_⟩
    · have hk' : k < fs.length := by have : k < (upP fs).length := hk; rwa [upP_length] at this
      show 1 ≤ ((upP fs).getD k (0, 0)).2 ∧ ((upP fs).getD k (0, 0)).2 ≤ 62
      rw [hget k hk']
      have h1 := (hF.each _ (List.getElem_mem hk'))
      have h2 := Nat.le_of_dvd (by omega) (pow_dvd hF (List.getElem_mem hk'))
      have h3' : 2 ^ fs[k].2 ≤ fs[k].1 ^ fs[k].2 := Nat.pow_le_pow_left h1.1.1 _
      have h5 := (Nat.pow_le_pow_iff_right (a := 2) (by omega)).1 (show 2 ^ fs[k].2 ≤ 2 ^ 16 by omega)
      have h6' := h1.2
      show (1 : Int) ≤ (fs[k].2 : Int) ∧ (fs[k].2 : Int) ≤ 62
      omega
    · have hk' : k + 1 < fs.length := by have : k + 1 < (upP fs).length := hk; rwa [upP_length] at this
      show ((upP fs).getD k (0, 0)).1 < ((upP fs).getD (k + 1) (0, 0)).1 ∧ _
      have hr := hrise k (k + 1) (by omega) hk' (by omega)
      have hxm : fs[k + 1] ∈ fs := List.getElem_mem hk'
      have hle := Nat.le_of_dvd (by omega) (hF.dvd hxm)
      have hk2 := (hF.each _ (List.getElem_mem (show k < fs.length by omega))).1.1
      rw [hget k (by omega)]
      refine ⟨by rw [hget (k + 1) hk']; show (fs[k].1 : Int) < (fs[k + 1].1 : Int); omega, ?_⟩
      show (es.take j).any (fun x => x.p == ((upP fs).getD (k + 1) (0, 0)).1) = true
      rw [hget (k + 1) hk']
      rcases hc ((fs[k + 1].1 : Int), (fs[k + 1].2 : Int)) (List.mem_map.2 ⟨_, hxm, rfl⟩) with h | ⟨e', he', hp'⟩
      · have : (fs[k + 1].1 : Int) = 2 := h
        omega
      · have hp2 : e'.p = (fs[k + 1].1 : Int) := hp'
        have hin : e'.p ∈ (List.range N.length).map F := hI.perm.mem_iff.2 (List.mem_map.2 ⟨e', he', rfl⟩)
        obtain ⟨i, hi, hFi⟩ := List.mem_map.1 hin
        have hi' := List.mem_range.1 hi
        have h4 : (q : Int) = F j := hpF
        have hij : i < j := by
          rcases Nat.lt_trichotomy i j with h | h | h
          · exact h
          · subst h; omega
          · have := hlt j i h hi'; omega
        rw [List.any_eq_true]
        refine ⟨es.getD i Ent.none, ?_, ?_⟩
        · have hil : i < es.length := by rw [hE.len]; exact hi'
          rw [List.getD_eq_getElem?_getD, List.getElem?_eq_getElem hil, Option.getD_some]
          rw [List.mem_take_iff_getElem]
          exact ⟨i, by omega, rfl⟩
        · rw [beq_iff_eq, (hE.each i hi').2, hFi, hp2]
    · show prodI (upP fs) = (q : Int) - 1
      rw [prodI_upP, hF.prod]; omega
  · refine ⟨?_, fun x hx => ?_⟩
    · show (g : Int) ^ ((q : Int) - 1).toNat % (q : Int) = 1
      rw [show ((q : Int) - 1).toNat = q - 1 by omega]
      exact (zt_pow_one (by omega) g (q - 1)).2 hone.2.1
    · obtain ⟨y, hy, rfl⟩ := List.mem_map.1 hx
      have := hG.2.1 y.1 (hF.each y hy).1 (hF.dvd hy)
      show (g : Int) ^ (((q : Int) - 1) / (y.1 : Int)).toNat % (q : Int) ≠ 1
      rw [show ((q : Int) - 1) / (y.1 : Int) = (((q - 1) / y.1 : Nat) : Int) by rw [show (q : Int) - 1 = ((q - 1 : Nat) : Int) by omega]; rfl]
      exact this
end Go.Proofs.YtgdadkkiefkimaaGreat
