/- radix4: run. -/
import Derived.Test.YthhkljfgkihfgaaGreatRad4Q
import Derived.Test.YthhkljfgkihfgaaGreatWTrRad4M
set_option linter.unusedVariables false
set_option linter.unusedSimpArgs false
set_option linter.unusedSectionVars false
set_option linter.unusedVariables false
set_option linter.unusedSimpArgs false
namespace Go.Proofs.YthhkljfgkihfgaaGreat
open Go.RowKit
open Alg

/-- Powers of two. -/
def Pow2 (n : Nat) : Prop := ∃ k, n = 2 ^ k
theorem Pow2.cases {n : Nat} (h : Pow2 n) : n = 1 ∨ n = 2 ∨ ∃ m, n = 4 * m ∧ Pow2 m ∧ 0 < m := by
  obtain ⟨k, rfl⟩ := h
  match k with
  | 0 => exact .inl rfl
  | 1 => exact .inr (.inl rfl)
  | k + 2 => exact .inr (.inr ⟨2 ^ k, by rw [Nat.pow_succ, Nat.pow_succ]; omega, ⟨k, rfl⟩, Nat.pow_pos (by omega)⟩)

/-- The four parts, behind q rounds. -/
def PartsI {p : Nat} [NeZero p] (pb m : Nat) (F : Nat → Nat → Fin p) (w1 : World) (q : Nat) (A : Nat → Option Addr) (C : Nat → Nat) (wr : World) : Prop :=
  Below pb w1 wr ∧ pb < wr.heap.size ∧ (∀ j, j < 4 → wr.cell? ⟨pb, j, none⟩ = some (if j < q then .slice (A j) m (C j) else .slice none 0 0)) ∧ (∀ j, wr.frozen? ⟨pb, j, none⟩ = false) ∧ (∀ j, j < q → RdI wr wr.heap.size .u64 (A j) (lst m (F j)) ∧ ∀ b o, A j = some ⟨b, o, none⟩ → 0 < m → b ≠ pb)
theorem PartsI.step {p : Nat} [NeZero p] {pb m q : Nat} {F : Nat → Nat → Fin p} {w1 wr w7 : World} {A : Nat → Option Addr} {C : Nat → Nat} (h : PartsI pb m F w1 q A C wr) (hq : q < 4) (hb : Below wr.heap.size wr w7) {A' : Option Addr} {c' : Nat}
    (hR : RdI w7 w7.heap.size .u64 A' (lst m (F q))) (hA : ∀ b o, A' = some ⟨b, o, none⟩ → 0 < m → b ≠ pb) :
    PartsI pb m F w1 (q + 1) (fun j => if j = q then A' else A j) (fun j => if j = q then c' else C j) (w7.setCell ⟨pb, q, none⟩ (.slice A' m c')) := by
  obtain ⟨h1, h2, h3, h4, h5⟩ := h
  have hs7 := hb.size
  have hc7 : ∀ j, j < 4 → w7.cell? ⟨pb, j, none⟩ = some (if j < q then .slice (A j) m (C j) else .slice none 0 0) := fun j hj => cell_keep hb h2 (h3 j hj)
  have hsz : (w7.setCell ⟨pb, q, none⟩ (.slice A' m c')).heap.size = w7.heap.size := by simp [World.setCell]
  have keep : ∀ (B : Option Addr) (L : List Int), RdI w7 w7.heap.size .u64 B L → (∀ b o, B = some ⟨b, o, none⟩ → 0 < L.length → b ≠ pb) → RdI (w7.setCell ⟨pb, q, none⟩ (.slice A' m c')) (w7.setCell ⟨pb, q, none⟩ (.slice A' m c')).heap.size .u64 B L := fun B L hBL hne hl => by
    obtain ⟨b, o, e, hlt, hc⟩ := hBL hl
    refine ⟨b, o, e, by rw [hsz]; exact hlt, fun j hj => ?_⟩
    rw [World.cell?_setCell_other _ _ _ _ (fun hh => hne b o e hl (by injection hh with hh _ _; exact hh.symm))]
    exact hc j hj
  refine ⟨(h1.trans (hb.mono (by omega))).setCell (Nat.le_refl pb) _, by rw [hsz]; omega, fun j hj => ?_, fun j => ?_, fun j hj => ?_⟩
  · by_cases e : j = q
    · subst e
      rw [World.cell?_setCell_same _ _ _ (hc7 j hj), if_pos (by omega)]; simp
    · rw [World.cell?_setCell_other _ _ _ _ (fun hh => e (by injection hh with _ hh _; exact hh.symm)), hc7 j hj]
      by_cases hjq : j < q
      · rw [if_pos hjq, if_pos (by omega)]; simp [e]
      · rw [if_neg hjq, if_neg (by omega)]
  · have : w7.frozen? ⟨pb, j, none⟩ = false := (hb.frozen (p := ⟨pb, j, none⟩) h2).trans (h4 j)
    simpa using this
  · by_cases e : j = q
    · subst e
      simp only [if_true]
      exact ⟨keep A' _ hR fun b o hb' hl => hA b o hb' (by rw [lst_length] at hl; exact hl), hA⟩
    · simp only [e, if_false]
      exact ⟨keep (A j) _ (((h5 j (by omega)).1.below hb).mono hs7) fun b o hb' hl => (h5 j (by omega)).2 b o hb' (by rw [lst_length] at hl; exact hl), (h5 j (by omega)).2⟩
set_option maxHeartbeats 4000000 in
set_option maxRecDepth 100000 in
theorem rrun_any {p : Nat} [NeZero p] {v : Value} {g W : Int} (N cT : Nat) (AT : Option Addr) (hp : Prime p) (hΩ : Ord (zt p W) N) (hN4 : N ≤ 4096) (K : Nat) :
    ∀ (n s : Nat) (a : Nat → Fin p) (AL : Option Addr) (cL : Nat) (w : World), n < K → Pow2 n → n * s = N → Fd w w.heap.size v p g →
      RdI w w.heap.size .u64 AT (full N fun i => lft p (W ^ i)) → RdI w w.heap.size .u64 AL (lst n a) →
      Calls Tryz.prog 90 #[.agg #[v, .slice AT N cT], .slice AL n cL, .int .i64 s] w
        fun r w' => ∃ V, r = .returned V ∧ OwnU w' w.heap.size V n (lst n (dft (pw (zt p W) s) n a)) ∧ Below w.heap.size w w' := by
  induction K with
  | zero => intro n s a AL cL w h; omega
  | succ K ih =>
    intro n s a AL cL w hnK hn2 hns h hT hL
    have hN0 := hΩ.1
    have hs0 : 0 < s := by
      rcases Nat.eq_zero_or_pos s with e | e
      · subst e; omega
      · exact e
    have HPM := Lib.hid (And.intro h.p3 h.pmx)
    have hB0 := (Below.refl w.heap.size w).alloc (Nat.le_refl _) (.cells #[v, .slice AT N cT] 93)
    have b0 : (w.alloc (.cells #[v, .slice AT N cT] 93)).cell? ⟨w.heap.size, 0, none⟩ = some v := World.cell?_alloc_at _ _ _ _ rfl
    have b1 : (w.alloc (.cells #[v, .slice AT N cT] 93)).cell? ⟨w.heap.size, 1, none⟩ = some (.slice AT N cT) := World.cell?_alloc_at _ _ _ _ rfl
    have hsz : w.heap.size + 1 = (w.alloc (.cells #[v, .slice AT N cT] 93)).heap.size := by simp
    obtain ⟨w1, hw1⟩ : ∃ w1, w1 = w.alloc (.cells #[v, .slice AT N cT] 93) := ⟨_, rfl⟩
    rw [← hw1] at hB0 b0 b1 hsz
    have HW1 := Lib.hid hw1
    have hsz' : w.heap.size + 1 ≤ w1.heap.size := by omega
    clear hw1 hsz
    have hlen : (lst n a).length = n := lst_length n a
    rcases hn2.cases with rfl | rfl | ⟨m, rfl, hm2, hm0⟩
    · -- one number
      have hC := Lib.hid (cloneU_any AL cL (lst 1 a) w1 (by rw [hlen]; omega) ((hL.below hB0).mono hB0.size))
      rw [hlen] at hC
      have he : lst 1 (dft (pw (zt p W) s) 1 a) = lst 1 a := lst_congr fun i hi => by rw [dft_one]; congr 1; omega
      have HE := Lib.hid he
      clear he hL hT h hlen hn2 hns
      go_enter Tryz.func90, Tryz.ntmps90
      go_wp2_with fail
      rw [← HW1.out]
      refine hC.out.mono ?_
      rintro r w2 ⟨V, rfl, hO, hB2⟩
      have HO := Lib.hid hO
      clear hO
      go_wp2
      go_ret
      exact ⟨V, rfl, by rw [HE.out]; exact HO.out.mono (by omega), hB0.trans (hB2.mono (by omega))⟩
    · -- two
      obtain ⟨b, o, rfl, hb, hc⟩ := hL (by rw [hlen]; omega)
      have d0 := cell_keep hB0 hb (hc 0 (by rw [hlen]; omega))
      have d1 := cell_keep hB0 hb (hc 1 (by rw [hlen]; omega))
      rw [lst_get (by omega)] at d0 d1
      rw [Nat.add_zero] at d0
      have hm1 : pw (zt p W) s = -1 := half_neg hp hΩ (by omega)
      obtain ⟨e0, e1⟩ := dft_two hm1 a
      have HE : Hid (lst 2 (dft (pw (zt p W) s) 2 a) = [((a 0 + a 1 : Fin p).val : Int), ((a 0 - a 1 : Fin p).val : Int)]) := Lib.hid (by
        show [((dft (pw (zt p W) s) 2 a 0).val : Int), ((dft (pw (zt p W) s) 2 a 1).val : Int)] = _
        rw [e0, e1])
      have hlp : ∀ x : Fin p, 0 ≤ ((x.val : Nat) : Int) ∧ ((x.val : Nat) : Int) ≤ 18446744073709551615 := fun x => by have := x.isLt; have := HPM.out.2; omega
      have hF1 := h.below hB0
      have HA : Hid (∀ n, Calls Tryz.prog 31 #[v, .int .u64 ((a 0).val : Int), .int .u64 ((a 1).val : Int)] (w1.drewN n) fun e w' => e = .returned (.int .u64 ((a 0 + a 1).val : Int)) ∧ ∃ k, w' = (w1.drewN n).drewN k) := Lib.hid (fun n => by
        have h1 := fadd_fd (hF1.drewN n) ((a 0).val : Int) ((a 1).val : Int) (hlp _).1 (hlp _).2 (hlp _).1 (hlp _).2
        rw [ev_add, zt_of_val, zt_of_val] at h1
        exact h1)
      have HS : Hid (∀ n, Calls Tryz.prog 79 #[v, .int .u64 ((a 0).val : Int), .int .u64 ((a 1).val : Int)] (w1.drewN n) fun e w' => e = .returned (.int .u64 ((a 0 - a 1).val : Int)) ∧ ∃ k, w' = (w1.drewN n).drewN k) := Lib.hid (fun n => by
        have h1 := fsub_fd (hF1.drewN n) ((a 0).val : Int) ((a 1).val : Int) (hlp _).1 (hlp _).2 (hlp _).1 (hlp _).2
        rw [ev_sub, zt_of_val, zt_of_val] at h1
        exact h1)
      clear hc hL hT h hlp hF1 hlen e0 e1 hm1 hn2 hns
      go_enter Tryz.func90, Tryz.ntmps90
      go_upto_region 5 with fail
      rw [← HW1.out]
      refine wp_region_qtail 18 (by kernel_rfl) (by kernel_rfl) ?_
      simp only [List.take_succ_cons, List.take_zero, List.drop_succ_cons, List.drop_zero]
      repeat (go_big_quiet_step ((first | (go_at_call 31; exact Calls.quiet_of (HA.out _)) | (go_at_call 79; exact Calls.quiet_of (HS.out _)))))
      refine wpQuiet_nil ?_
      intro _ hw'
      obtain ⟨nq, hw''⟩ := hw'
      subst hw''
      go_wp2
      go_ret
      have hBq := below_drewN hB0 nq
      refine ⟨_, rfl, ?_, hBq.alloc hBq.size _⟩
      rw [HE.out]
      exact World.ownsRow_lit _ #[.int .u64 ((a 0 + a 1 : Fin p).val : Int), .int .u64 ((a 0 - a 1 : Fin p).val : Int)] 2 hBq.size (by unfold maxLen; omega) rfl
    · -- four times m
      have hN : N = 4 * m * s := hns.symm
      have hmle : 4 * m ≤ N := by rw [hN]; exact Nat.le_mul_of_pos_right _ hs0
      have h1a : (4 * m == 1) = false := by simp; omega
      have hEv : Hid (∀ (q : Nat), q < 4 → ∀ wz, Below w.heap.size w wz → Calls Tryz.prog 126 #[.slice AL (4 * m) cL, .int .i64 q] wz fun r w' => ∃ V, r = .returned V ∧ OwnU w' wz.heap.size V m (lst m (fun j => a (q + 4 * j))) ∧ Below wz.heap.size wz w') := Lib.hid (fun q hq wz hz => by
        have h1 := every_any AL cL q m (lst (4 * m) a) wz hq (lst_length _ _) (by rw [lst_length]; omega) ((hL.below hz).mono hz.size)
        rw [lst_length] at h1
        have h2 : fourth (lst (4 * m) a) q m = lst m (fun j => a (q + 4 * j)) := full_congr fun j hj => by rw [lst_get (by omega)]
        rw [h2] at h1
        exact h1)
      have hRu : Hid (∀ (q : Nat) (wz : World) (V : Value) (B : Nat), q < 4 → Below w.heap.size w wz → OwnU wz B V m (lst m (fun j => a (q + 4 * j))) → Calls Tryz.prog 90 #[.agg #[v, .slice AT N cT], V, .int .i64 ((4 * s : Nat) : Int)] wz fun r w' => ∃ V' A' c', r = .returned V' ∧ V' = .slice A' m c' ∧ RdI w' w'.heap.size .u64 A' (lst m (dft (pw (zt p W) (4 * s)) m (fun j => a (q + 4 * j)))) ∧ (∀ b o, A' = some ⟨b, o, none⟩ → 0 < m → wz.heap.size ≤ b) ∧ Below wz.heap.size wz w') := Lib.hid (fun q wz V B hq hz hV => by
        obtain ⟨A2, c2, rfl, hR2⟩ := hV.rd
        refine (ih m (4 * s) (fun j => a (q + 4 * j)) A2 c2 wz (by omega) hm2 (by rw [hN, Nat.mul_left_comm, ← Nat.mul_assoc]) ((h.below hz).mono hz.size) ((hT.below hz).mono hz.size) hR2).mono ?_
        rintro r w' ⟨V', hr, hO, hB⟩
        obtain ⟨A', c', hV', hR'⟩ := hO.rd
        refine ⟨V', A', c', hr, hV', hR', fun b o hb hm => ?_, hB⟩
        rcases hO.2 with ⟨_, h0⟩ | ⟨gb, cap, cur, e, h1, _⟩
        · omega
        · rw [hV', hb] at e
          injection e with e _ _
          injection e with e
          injection e with e _ _
          omega)
      have hQu : Hid (∀ wz (A : Nat → Option Addr) (C : Nat → Nat), Below w.heap.size w wz → (∀ q, q < 4 → RdI wz wz.heap.size .u64 (A q) (lst m (dft (pw (zt p W) (4 * s)) m (fun j => a (q + 4 * j))))) →
          Calls Tryz.prog 127 #[.agg #[v, .slice AT N cT], .agg #[.slice (A 0) m (C 0), .slice (A 1) m (C 1), .slice (A 2) m (C 2), .slice (A 3) m (C 3)], .int .i64 s] wz
            fun r w' => ∃ V, r = .returned V ∧ OwnU w' wz.heap.size V (4 * m) (lst (4 * m) (dft (pw (zt p W) s) (4 * m) a)) ∧ Below wz.heap.size wz w') := Lib.hid (fun wz A C hz hR => by
        have h1 := quarters_any ((h.below hz).mono hz.size) m s N AT cT A C (fun q k => dft (pw (zt p W) (4 * s)) m (fun j => a (q + 4 * j)) k) hm0 hs0 hN hN4 hΩ.2.1 ((hT.below hz).mono hz.size) hR
        have h2 : lst (4 * m) (qf (zt p W) m s (fun q k => dft (pw (zt p W) (4 * s)) m (fun j => a (q + 4 * j)) k)) = lst (4 * m) (dft (pw (zt p W) s) (4 * m) a) := lst_congr fun i hi => by
          rw [quarters_eq hp (hN ▸ hΩ) a i hi hm0 (t := qt (zt p W) s (fun q k => dft (pw (zt p W) (4 * s)) m (fun j => a (q + 4 * j)) k)) (fun q k _ _ => rfl)]
          rfl
        rw [h2] at h1
        exact h1)
      have hm4 : m ≤ 1024 := by omega
      have hs4 : s ≤ 1024 := by
        have : 4 * s ≤ N := by rw [hN, Nat.mul_assoc, Nat.mul_comm m s, ← Nat.mul_assoc]; exact Nat.le_mul_of_pos_right _ hm0
        omega
      have e4s : 4 * (s : Int) = ((4 * s : Nat) : Int) := by omega
      have t1 : ((4 * (m : Int)) == 1) = false := by simp; omega
      have t2 : ((4 * (m : Int)) == 2) = false := by simp; omega
      clear hL hT h hlen hn2 hns ih hN hmle h1a e4s
      go_enter Tryz.func90, Tryz.ntmps90
      go_upto_region 7 with fail
      rw [← HW1.out]
      have hP0 : PartsI w1.heap.size m (fun q k => dft (pw (zt p W) (4 * s)) m (fun j => a (q + 4 * j)) k) w1 0 (fun _ => none) (fun _ => 0) (w1.alloc (.cells #[.slice none 0 0, .slice none 0 0, .slice none 0 0, .slice none 0 0] 125)) :=
        ⟨(Below.refl _ _).alloc (Nat.le_refl _) _, by simp, fun j hj => by
          rw [if_neg (by omega), World.cell?_alloc_at _ _ _ _ rfl]
          rcases (show j = 0 ∨ j = 1 ∨ j = 2 ∨ j = 3 by omega) with rfl | rfl | rfl | rfl <;> rfl, fun j => World.frozen?_alloc_at _ _ _ _ rfl, fun j hj => by omega⟩
      obtain ⟨Fq, hFq⟩ : ∃ Fq : Nat → Nat → Fin p, Fq = fun q k => dft (pw (zt p W) (4 * s)) m (fun j => a (q + 4 * j)) k := ⟨_, rfl⟩
      have hRu' : Hid (∀ (q : Nat) (wz : World) (V : Value) (B : Nat), q < 4 → Below w.heap.size w wz → OwnU wz B V m (lst m (fun j => a (q + 4 * j))) → Calls Tryz.prog 90 #[.agg #[v, .slice AT N cT], V, .int .i64 ((4 * s : Nat) : Int)] wz fun r w' => ∃ V' A' c', r = .returned V' ∧ V' = .slice A' m c' ∧ RdI w' w'.heap.size .u64 A' (lst m (Fq q)) ∧ (∀ b o, A' = some ⟨b, o, none⟩ → 0 < m → wz.heap.size ≤ b) ∧ Below wz.heap.size wz w') := by rw [hFq]; exact hRu
      have hQu' : Hid (∀ wz (A : Nat → Option Addr) (C : Nat → Nat), Below w.heap.size w wz → (∀ q, q < 4 → RdI wz wz.heap.size .u64 (A q) (lst m (Fq q))) →
          Calls Tryz.prog 127 #[.agg #[v, .slice AT N cT], .agg #[.slice (A 0) m (C 0), .slice (A 1) m (C 1), .slice (A 2) m (C 2), .slice (A 3) m (C 3)], .int .i64 s] wz
            fun r w' => ∃ V, r = .returned V ∧ OwnU w' wz.heap.size V (4 * m) (lst (4 * m) (dft (pw (zt p W) s) (4 * m) a)) ∧ Below wz.heap.size wz w') := by rw [hFq]; exact hQu
      rw [← hFq] at hP0
      have HP0 := Lib.hid hP0
      obtain ⟨s4, hs4e⟩ : ∃ s4 : Nat, s4 = 4 * s := ⟨_, rfl⟩
      have e4s : 4 * (s : Int) = (s4 : Int) := by omega
      have hs4b : s4 ≤ 4096 := by omega
      rw [← hs4e] at hRu'
      clear hFq hRu hQu hP0 hs4e
      generalize w1.alloc (.cells #[.slice none 0 0, .slice none 0 0, .slice none 0 0, .slice none 0 0] 125) = w2 at *
      obtain ⟨pb, hpb⟩ : ∃ pb, pb = w1.heap.size := ⟨_, rfl⟩
      rw [← hpb] at HP0
      have hpe : w.heap.size + 1 = pb := by
        have h1 : (w.alloc (.cells #[v, .slice AT N cT] 93)).heap.size = w.heap.size + 1 := by simp
        rw [hpb, HW1.out, h1]
      rw [hpe]
      have hpl : w.heap.size < pb := by omega
      clear hpb hpe
      go_wp2
      go_loopw [39] (fun I wr => ∃ (q : Nat) (A : Nat → Option Addr) (C : Nat → Nat), I = .int .i64 q ∧ q ≤ 4 ∧ Hid (PartsI pb m Fq w1 q A C wr)) (fun I _ => 4 - (intOf I).toNat)
      case atStart => exact ⟨0, _, _, rfl, by omega, HP0⟩
      case round =>
        clear HP0
        obtain ⟨q, A, C, rfl, hq4, hP⟩ := hrel
        have hw1 : Below pb w1 wr := hP.out.1
        have hpw : pb < wr.heap.size := hP.out.2.1
        have hw : Below w.heap.size w wr := hB0.trans (hw1.mono (by omega))
        have y0 := cell_keep hw1 hpl b0
        have y1 := cell_keep hw1 hpl b1
        by_cases hq : q < 4
        · have e0 : wr.cell? ⟨pb, q, none⟩ = some (.slice none 0 0) := by
            have := hP.out.2.2.1 q hq
            rwa [if_neg (by omega)] at this
          have ef : wr.frozen? ⟨pb, q, none⟩ = false := hP.out.2.2.2.1 q
          have hq0 : (0 : Int) ≤ (q : Int) := by omega
          have hq44 : (q : Int) < 4 := by omega
          have n3 : pb ≠ w.heap.size := by omega
          have n4 : w.heap.size ≠ pb := by omega
          have v1 : IntKind.i64.wrap (s4 : Int) = (s4 : Int) := IntWalk.i64_in _ (by omega)
          go_upto_region 10 with fail
          go_region_held3 (fun wz => wz.cell? ⟨w.heap.size, 0, none⟩ = some v ∧ wz.cell? ⟨w.heap.size, 1, none⟩ = some (.slice AT N cT))
            (first | go_keep | (refine ⟨?_, ?_⟩ <;> first | assumption | go_keep))
            ((first
            | (go_at_call 126; refine (hEv.out q hq _ (below_drewN hw 1)).mono ?_; rintro r w6 ⟨V, rfl, hV, hB6⟩; have hB6' := (below_drewN (Below.refl wr.heap.size wr) 1).trans hB6; have hw6 := hw.trans (hB6'.mono hw.size); have z0 := cell_keep hB6' (show w.heap.size < wr.heap.size by omega) y0; have z1 := cell_keep hB6' (show w.heap.size < wr.heap.size by omega) y1)
            | (go_at_call 90; refine (hRu'.out q _ _ _ hq hw6 hV).mono ?_; rintro r w7 ⟨V', A', c', rfl, rfl, hR7, hb7, hB7⟩; have hB67 := hB6'.trans (hB7.mono hB6'.size); have x0 := cell_keep hB67 (show w.heap.size < wr.heap.size by omega) y0; have x1 := cell_keep hB67 (show w.heap.size < wr.heap.size by omega) y1; have g0 := cell_keep hB67 hpw e0; have f0 := (hB67.frozen (p := ⟨pb, q, none⟩) hpw).trans ef)))
          have hP2 := Lib.hid (hP.out.step (c' := c') hq hB67 hR7 (fun b o hb hm => by have := hb7 b o hb hm; have := hB6'.size; omega))
          clear hP g0 f0 x0 x1 z0 z1
          go_wp2
          go_roundw
          case rel => exact ⟨q + 1, _, _, by go_num, by omega, hP2⟩
          case measure => simp [intOf]; omega
        · obtain rfl : q = 4 := by omega
          have hc := fun j hj => hP.out.2.2.1 j hj
          have c0 : wr.cell? ⟨pb, 0, none⟩ = some (.slice (A 0) m (C 0)) := hc 0 (by omega)
          have c1 : wr.cell? ⟨pb, 1, none⟩ = some (.slice (A 1) m (C 1)) := hc 1 (by omega)
          have c2 : wr.cell? ⟨pb, 2, none⟩ = some (.slice (A 2) m (C 2)) := hc 2 (by omega)
          have c3 : wr.cell? ⟨pb, 3, none⟩ = some (.slice (A 3) m (C 3)) := hc 3 (by omega)
          have hQ := Lib.hid (hQu'.out wr A C hw (fun q hq => (hP.out.2.2.2.2 q hq).1))
          clear hc hP
          go_wp2_with fail
          refine hQ.out.mono ?_
          rintro r w3 ⟨V, rfl, hO, hB3⟩
          have HO := Lib.hid (hO.mono hw.size)
          have HB := Lib.hid (hw.trans (hB3.mono hw.size))
          clear hO
          go_wp2
          go_ret
          exact ⟨_, rfl, HO.out, HB.out⟩
end Go.Proofs.YthhkljfgkihfgaaGreat
