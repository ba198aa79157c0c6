/- The law PlanRuns. -/
import Derived.Test.YtmalmijdjhkklaaGreatAl18
import Derived.Test.YtmalmijdjhkklaaGreatWPlOToOf18
import Derived.Test.YtmalmijdjhkklaaGreatWRef06ToMs18
import Derived.Test.YtmalmijdjhkklaaGreatWOpenOpenPOpenU
import Derived.Test.YtmalmijdjhkklaaGreatPlU
import Derived.Test.YtmalmijdjhkklaaGreatPlFi
import Derived.Test.YtmalmijdjhkklaaGreatWContToSame18
import Derived.Test.YtmalmijdjhkklaaGreatWR11PToR11
import Derived.Laws.AppendOwnNone
set_option linter.unusedVariables false
set_option linter.unusedSimpArgs false
set_option linter.unusedSectionVars false
set_option linter.unusedVariables false
set_option linter.unusedSimpArgs false
namespace Go.Proofs.YtmalmijdjhkklaaGreat
open Go.RowKit
open Alg
set_option maxHeartbeats 16000000 in
set_option maxRecDepth 100000 in
theorem planRuns_walk (w : World) (A0 : Option Addr) (c0 : Nat) (kind0 kk0 pp0 : Int) (es0 : List Ent) (K1 N1 M1 : Int) (A2 : Option Addr) (c2 : Nat) (L2 : List Int) (b3 : Bool) (hs0 : SrcA w A0 c0 kind0 kk0 pp0 es0) (hp1 : PlanA K1 N1 M1) (hl2 : LstA w A2 c2 L2) :
  Calls Tryz.prog 6 #[.agg #[.int .i64 kind0, .int .i64 kk0, .int .u64 pp0, .slice A0 es0.length c0], .agg #[.int .i64 K1, .int .i64 N1, .int .i64 M1], .slice A2 L2.length c2, .bool b3] w fun e w' => e = .returned (.bool true) ∧ Below w.heap.size w w' := by
 obtain ⟨i0, hi, hz0, hz1, hz2⟩ := info_parts info_u64
 have R0 : Hid (RowAt ((w.alloc (.cells #[.int .i64 kind0, .int .i64 kk0, .int .u64 pp0, .slice A0 es0.length c0] 25)).alloc (.cells #[.int .i64 K1, .int .i64 N1, .int .i64 M1] 27)) w.heap.size 25 #[.int .i64 kind0, .int .i64 kk0, .int .u64 pp0, .slice A0 es0.length c0] ∧ RowAt ((w.alloc (.cells #[.int .i64 kind0, .int .i64 kk0, .int .u64 pp0, .slice A0 es0.length c0] 25)).alloc (.cells #[.int .i64 K1, .int .i64 N1, .int .i64 M1] 27)) (w.heap.size + 1) 27 #[.int .i64 K1, .int .i64 N1, .int .i64 M1] ∧ Below w.heap.size w ((w.alloc (.cells #[.int .i64 kind0, .int .i64 kk0, .int .u64 pp0, .slice A0 es0.length c0] 25)).alloc (.cells #[.int .i64 K1, .int .i64 N1, .int .i64 M1] 27))) := Lib.hid (lay2 w 25 27 #[.int .i64 kind0, .int .i64 kk0, .int .u64 pp0, .slice A0 es0.length c0] #[.int .i64 K1, .int .i64 N1, .int .i64 M1])
 have HS := Lib.hid hs0
 have HP := Lib.hid hp1
 have HL := Lib.hid hl2
 have hLl := hl2.hl
 have HU := Lib.hid hl2.hU
 have HO := Lib.hid (fun W => of18_any K1 N1 M1 hp1.k0 hp1.k1 W)
 have KP : Hid (∀ W W', (RowAt W w.heap.size 25 #[.int .i64 kind0, .int .i64 kk0, .int .u64 pp0, .slice A0 es0.length c0] ∧ RowAt W (w.heap.size + 1) 27 #[.int .i64 K1, .int .i64 N1, .int .i64 M1] ∧ Below w.heap.size w W) → Below W.heap.size W W' → (RowAt W' w.heap.size 25 #[.int .i64 kind0, .int .i64 kk0, .int .u64 pp0, .slice A0 es0.length c0] ∧ RowAt W' (w.heap.size + 1) 27 #[.int .i64 K1, .int .i64 N1, .int .i64 M1] ∧ Below w.heap.size w W')) := Lib.hid (fun W W' h hB => ⟨h.1.keep hB, h.2.1.keep hB, h.2.2.trans (hB.mono h.2.2.size)⟩)
 clear hs0 hp1 hl2
 go_enter Tryz.func6, Tryz.ntmps6
 go_wp2_with fail
 generalize ((w.alloc (.cells #[.int .i64 kind0, .int .i64 kk0, .int .u64 pp0, .slice A0 es0.length c0] 25)).alloc (.cells #[.int .i64 K1, .int .i64 N1, .int .i64 M1] 27)) = w1 at *
 refine (alive18_any w1).mono ?_
 rintro e w2 ⟨rfl, hB2⟩
 have R2 := Lib.hid (KP.out _ _ R0.out hB2)
 clear hB2 R0
 by_cases hlong : 1100 < L2.length
 ·have tl : decide ((L2.length : Int) > 1100) = true := decide_eq_true (by omega)
  have tl2 : decide (1100 < L2.length) = true := decide_eq_true hlong
  clear hlong
  go_wp2
  go_ret
  exact ⟨rfl, R2.out.2.2⟩
 have tl : decide ((L2.length : Int) > 1100) = false := decide_eq_false (by omega)
 have tl2 : decide (1100 < L2.length) = false := decide_eq_false hlong
 go_wp2_with (refine wpList_load_row rfl _ _ rfl _ rfl _ _ _ _ (R2.out.1) Tryz.underlying25 rfl (by exact size_src) ?_)
 refine (made_src (HS.out.below R2.out.2.2)).mono ?_
 rintro e w3 ⟨v, p, g, rfl, hM, hB3⟩
 have R3 := Lib.hid (KP.out _ _ R2.out hB3)
 have HM := Lib.hid hM
 have hL3 := HL.out.below R3.out.2.2
 clear hB3 R2 hM HS
 go_upto_region 6 with fail
 go_cut [12] (fun V wx => ∃ A' c', V = .slice A' L2.length c' ∧ RdI wx wx.heap.size .u64 A' L2 ∧ Below w3.heap.size w3 wx)
 case first =>
  have hB := (Below.refl w3.heap.size w3).alloc (Nat.le_refl _) (.cells #[] 22)
  have hown : (w3.alloc (.cells #[] 22)).ownsRow w3.heap.size 22 1 (.slice (some ⟨w3.heap.size, 0, none⟩) 0 0) 0 [] := World.ownsRow_lit w3 #[] 0 (Nat.le_refl _) (by unfold maxLen; omega) rfl
  obtain ⟨hLl, hLU, hLR, hAL⟩ := hL3
  rcases A2 with _ | ad
  ·have hf : L2 = [] := by
    rcases Nat.eq_zero_or_pos L2.length with h | h
    ·exact List.eq_nil_of_length_eq_zero h
    ·obtain ⟨b, o, h, _⟩ := hLR h
     cases h
   have hc0 := hAL rfl
   subst hf
   subst hc0
   clear hLR hLl hLU hAL
   go_wp2_with (at_builtin; refine wpList_append_own_none rfl _ _ 54 rfl w3.heap.size 22 i0 1 Tryz.underlying54 hi _ 0 [] rfl hown rfl ?_)
   go_wp2
   go_meet
   exact ⟨_, _, rfl, fun h => by simp at h, hB⟩
  ·have hcells : ∀ j u, (ints .u64 L2)[j]? = some u → w3.cell? (ad.add j) = some u := by
    intro j u hu
    have hj : j < L2.length := by
     rcases Nat.lt_or_ge j L2.length with h | h
     ·exact h
     ·rw [List.getElem?_eq_none (by rw [ints_length]; exact h)] at hu; cases hu
    obtain ⟨b, o, h, _, hc⟩ := hLR (by omega)
    have h' : ad = ⟨b, o, none⟩ := Option.some.inj h
    rw [h']
    have h2 := hc j hj
    have h3 : u = .int .u64 (L2.getD j 0) := by
     simp [ints, List.getElem?_eq_getElem hj] at hu
     rw [← hu, List.getD_eq_getElem?_getD, List.getElem?_eq_getElem hj]; rfl
    rw [h3, ← h2, addrN]
   have HC : Hid (∀ j u, (ints .u64 L2)[j]? = some u → (w3.alloc (.cells #[] 22)).cell? (ad.add j) = some u) := Lib.hid (fun j u hu => by
    have h1 := hcells j u hu
    exact (hB.cell (World.block_lt_of_cell? w3 _ h1)).trans h1)
   have H1 : Hid (∀ u ∈ ints .u64 L2, u.oneCell' = true) := Lib.hid (fun u hu => by
    obtain ⟨x, _, rfl⟩ := List.mem_map.1 hu
    rfl)
   clear hcells hLR hLU hAL
   go_wp2_with (at_builtin; refine wpList_append_own _ rfl _ _ 54 rfl w3.heap.size 22 i0 (.int .u64 0) 1 8 Tryz.underlying54 hi hz0 hz1 hz2 rfl (by decide) _ 0 [] rfl hown ad L2.length c2 (ints .u64 L2) rfl ?c0 HC.out H1.out ?c3 ?c4 ?c5 ?_)
   case c0 => rw [ints_length]; omega
   case c3 => unfold maxLen; omega
   case c4 => omega
   case c5 => simp
   intro v' w4 hown' hgrow _
   have hO : OwnU w4 w3.heap.size v' L2.length L2 := by
    unfold OwnU
    simpa using hown'
   have hB4 : Below w3.heap.size w3 w4 := hB.grown hgrow (by simp) (fun k hk => by simp [Value.ownBlock] at hk; omega)
   have HO := Lib.hid hO
   clear hown' hown hgrow hO hB
   go_wp2
   go_meet
   obtain ⟨A', c', he, hRd⟩ := HO.out.rd
   exact ⟨A', c', he, hRd, hB4⟩
 case rest =>
  obtain ⟨A', c', rfl, hRl, hBc⟩ := hcut
  have R4 := Lib.hid (KP.out _ _ R3.out hBc)
  have HM4 := Lib.hid (HM.out.below' hBc)
  have HRl := Lib.hid hRl
  clear hL3 hRl hBc HM R3
  go_wp2_with (refine wpList_load_row rfl _ _ rfl _ rfl _ _ _ _ (R4.out.2.1) Tryz.underlying27 rfl (by exact size_rplan) ?_)
  refine (HO.out _).mono ?_
  rintro e w5 ⟨rfl, hB5⟩
  have R5 := Lib.hid (KP.out _ _ R4.out hB5)
  have HM5 := Lib.hid (HM4.out.below' hB5)
  have HRl5 := Lib.hid ((HRl.out.below hB5).mono hB5.size)
  have HRl4 : Hid (∀ W, Below w5.heap.size w5 W → RdI W W.heap.size .u64 A' L2) := Lib.hid (fun W hW => (HRl5.out.below hW).mono hW.size)
  have HSm : Hid (∀ W, Below w5.heap.size w5 W → Calls Tryz.prog 28 #[.slice A' L2.length c', .slice A2 L2.length c2] W fun e w' => e = .returned (.bool true) ∧ Below W.heap.size W w') := Lib.hid (fun W hW => by
   have h1 := same_any A' A2 c' c2 W.heap.size L2 L2 W (by omega) (by omega) (HRl4.out W hW) (HL.out.below (R5.out.2.2.trans (hW.mono R5.out.2.2.size))).hR
   rw [show decide (L2 = L2) = true by simp] at h1
   exact h1)
  clear hB5 R4 HM4 HRl
  rcases HM5.out with ⟨rfl, rfl, rfl⟩ | ⟨p3, hC, hF⟩
  ·clear HM5
   have HN := Lib.hid (prun_nil K1 N1 M1 A' L2.length c' b3 w5)
   go_wp2_with fail
   refine HN.out.mono ?_
   rintro e w6 ⟨rfl, hB6⟩
   have HSm6 := Lib.hid (HSm.out w6 hB6)
   have HB6 := Lib.hid (R5.out.2.2.trans (hB6.mono R5.out.2.2.size))
   clear hB6
   go_wp2_with fail
   refine HSm6.out.mono ?_
   rintro e w7 ⟨rfl, hB7⟩
   go_wp2
   go_ret
   exact ⟨by first | rfl | simp, HB6.out.trans (hB7.mono HB6.out.size)⟩
  ·obtain ⟨q, rfl⟩ := Int.eq_ofNat_of_zero_le (show 0 ≤ p by omega)
   have pm := hF.pmx
   haveI : NeZero q := ⟨by omega⟩
   obtain ⟨hp, hord⟩ := hC.nat
   have hg := hC.gr
   have tp : ((q : Int) == 0) = false := by simp; omega
   have HPM := Lib.hid (And.intro p3 pm)
   have HPr := Lib.hid (And.intro hp (And.intro hord hg))
   have HRn := Lib.hid (prun_fd hp hord (by omega) hg.2 hF A' c' L2 b3 HU.out HRl5.out K1 N1 M1 HP.out.k0 HP.out.k1 HP.out.n0 HP.out.n1 HP.out.a0 HP.out.a1 hLl)
   have HG := Lib.hid (fun W => r18fits_any (q : Int) K1 N1 M1 p3 pm HP.out.k0 HP.out.k1 HP.out.n0 HP.out.n1 HP.out.a0 HP.out.a1 W)
   have HGd : Hid (∀ W, Below w.heap.size w W → Calls Tryz.prog 29 #[.int .u64 (q : Int), .slice A2 L2.length c2] W fun e w' => e = .returned (.bool (goodB (q : Int) L2)) ∧ W = w') := Lib.hid (fun W hW => r11good_any A2 c2 W.heap.size (q : Int) L2 W hLl (HL.out.below hW).hR)
   have HE : Hid (errP (q : Int) K1 N1 M1 L2 = if (L2.length : Int) ≠ N1 ∨ N1 < 1 then 1 else if fitI (q : Int) K1 N1 M1 ≠ 0 then fitI (q : Int) K1 N1 M1 else goodE (q : Int) L2) := Lib.hid rfl
   have HGc := Lib.hid (goodE_cases (q : Int) L2)
   have HCk := Lib.hid (fun h => fit_chk (p := (q : Int)) (K := K1) (N := N1) (M := M1) h)
   obtain ⟨ft, hft⟩ : ∃ ft, ft = fitI (q : Int) K1 N1 M1 := ⟨_, rfl⟩
   obtain ⟨er, her⟩ : ∃ er, er = errP (q : Int) K1 N1 M1 L2 := ⟨_, rfl⟩
   obtain ⟨gd, hgd⟩ : ∃ gd, gd = goodB (q : Int) L2 := ⟨_, rfl⟩
   rw [← hft] at HG HE HCk
   rw [← her] at HRn HE
   rw [← hgd] at HGd HGc
   have Hgd := Lib.hid hgd
   clear HM5 hC hF hp hord hg p3 pm hft her hgd
   go_wp2_with fail
   refine HRn.out.mono ?_
   rintro e w6 ⟨V, rfl, hQ, hB6⟩
   have R6 := Lib.hid (KP.out _ _ R5.out hB6)
   have HSm6 := Lib.hid (HSm.out w6 hB6)
   rcases hQ with ⟨he0, hO6⟩ | ⟨hne, rfl⟩
   case inr =>
    clear hB6
    go_wp2_with fail
    refine HSm6.out.mono ?_
    rintro e w7 ⟨rfl, hB7⟩
    have R7 := Lib.hid (KP.out _ _ R6.out hB7)
    have d1 := R7.out.2.1.cell (i := 1) (v := .int .i64 N1) rfl
    have tne : (er != 0) = true := by simpa using hne
    have tee : (er == er) = true := by simp
    have HE' := HE.out
    clear hB7 R6 HE
    by_cases h1 : (L2.length : Int) = N1
    ·have t1 : ((L2.length : Int) == N1) = true := by simpa using h1
     by_cases h2 : 0 < N1
     ·have t2 : decide (N1 > 0) = true := decide_eq_true h2
      have t2b : decide (0 < N1) = true := decide_eq_true h2
      rw [if_neg (by omega)] at HE'
      by_cases h3 : ft = 0
      ·rw [if_neg (by simp [h3])] at HE'
       rcases HGc.out with ⟨h4, _⟩ | ⟨h4, h5⟩
       ·exact absurd (by rw [HE', h4]) hne
       ·rw [h4] at HE'
        have t3 : (ft == 0) = true := by simpa using h3
        rw [h5] at HGd
        subst HE'
        subst h3
        clear h1 h2 h4 h5 hne
        go_wp2_with (first | (refine wpList_load_row rfl _ _ rfl _ rfl _ _ _ _ (R7.out.2.1) Tryz.underlying27 rfl (by exact size_rplan) ?_) | (go_at_call 20; refine (HG.out _).mono ?_; rintro e w8 ⟨rfl, hB8⟩; have HB8 := Lib.hid (R7.out.2.2.trans (hB8.mono R7.out.2.2.size)); have HLg := Lib.hid (HGd.out w8 HB8.out)) | (go_at_call 29; refine HLg.out.mono ?_; rintro e w9 ⟨rfl, rfl⟩))
        go_ret
        exact ⟨by first | rfl | simp, by first | exact HB8.out | exact R7.out.2.2⟩
      ·have t3 : (ft == 0) = false := by simpa using h3
       rw [if_pos h3] at HE'
       have t4 : (ft != 0) = true := by simpa using h3
       have t5 : (er == ft) = true := by simpa using HE'
       clear h1 h2 hne h3 HE'
       go_wp2_with (first | (refine wpList_load_row rfl _ _ rfl _ rfl _ _ _ _ (R7.out.2.1) Tryz.underlying27 rfl (by exact size_rplan) ?_) | (go_at_call 20; refine (HG.out _).mono ?_; rintro e w8 ⟨rfl, hB8⟩; have HB8 := Lib.hid (R7.out.2.2.trans (hB8.mono R7.out.2.2.size)); have HLg := Lib.hid (HGd.out w8 HB8.out)) | (go_at_call 29; refine HLg.out.mono ?_; rintro e w9 ⟨rfl, rfl⟩))
       go_ret
       exact ⟨by first | rfl | simp, by first | exact HB8.out | exact R7.out.2.2⟩
     ·have t2 : decide (N1 > 0) = false := decide_eq_false h2
      have t2b : decide (0 < N1) = false := decide_eq_false h2
      rw [if_pos (.inr (by omega))] at HE'
      subst HE'
      clear h1 h2 hne
      go_wp2_with (first | (refine wpList_load_row rfl _ _ rfl _ rfl _ _ _ _ (R7.out.2.1) Tryz.underlying27 rfl (by exact size_rplan) ?_) | (go_at_call 20; refine (HG.out _).mono ?_; rintro e w8 ⟨rfl, hB8⟩; have HB8 := Lib.hid (R7.out.2.2.trans (hB8.mono R7.out.2.2.size)); have HLg := Lib.hid (HGd.out w8 HB8.out)) | (go_at_call 29; refine HLg.out.mono ?_; rintro e w9 ⟨rfl, rfl⟩))
      go_ret
      exact ⟨by first | rfl | simp, by first | exact HB8.out | exact R7.out.2.2⟩
    ·have t1 : ((L2.length : Int) == N1) = false := by simpa using h1
     rw [if_pos (.inl h1)] at HE'
     subst HE'
     clear h1 hne
     go_wp2_with (first | (refine wpList_load_row rfl _ _ rfl _ rfl _ _ _ _ (R7.out.2.1) Tryz.underlying27 rfl (by exact size_rplan) ?_) | (go_at_call 20; refine (HG.out _).mono ?_; rintro e w8 ⟨rfl, hB8⟩; have HB8 := Lib.hid (R7.out.2.2.trans (hB8.mono R7.out.2.2.size)); have HLg := Lib.hid (HGd.out w8 HB8.out)) | (go_at_call 29; refine HLg.out.mono ?_; rintro e w9 ⟨rfl, rfl⟩))
     go_ret
     exact ⟨by first | rfl | simp, by first | exact HB8.out | exact R7.out.2.2⟩
   case inl =>
    have h1 : ¬ ((L2.length : Int) ≠ N1 ∨ N1 < 1) := fun h => by
     have h5 := HE.out
     rw [if_pos h, he0] at h5
     exact absurd h5 (by decide)
    have hEr := HE.out
    rw [if_neg h1] at hEr
    have h3 : ft = 0 := by
     by_cases h3 : ft = 0
     ·exact h3
     ·rw [if_pos h3] at hEr
      omega
    rw [if_neg (by simp [h3])] at hEr
    have h5 : gd = true := by
     rcases HGc.out with ⟨_, h5⟩ | ⟨h4, _⟩
     ·exact h5
     ·omega
    have hchk := HCk.out h3
    have hNL : N1 = (L2.length : Int) := by omega
    rw [hNL] at hchk
    rw [h3] at HG
    rw [h5] at HGd
    subst he0
    obtain ⟨A6, c6, rfl, hR6⟩ := hO6.rd
    have HRn : Hid (∀ W, Below w.heap.size w W → Calls Tryz.prog 30 #[.int .u64 (q : Int), .int .u64 g, .slice A2 L2.length c2, .bool b3] W fun r w' => ∃ V, r = .returned V ∧ OwnU w' W.heap.size V L2.length (lst L2.length (tr (zt q g) L2.length b3 (rz q L2))) ∧ Below W.heap.size W w') := Lib.hid (fun W hW => by
     have h1 := r11run_yes (q : Int) g L2 b3 A2 c2 W HPM.out.1 HPM.out.2 (by have := HPr.out.2.2; omega) HPr.out.2.2.2 (chk_up hchk) HU.out (HL.out.below hW).hR
     rw [runR_eq b3 (by have := HPM.out.1; omega) HPr.out.2.1 (chk_up hchk)] at h1
     exact h1)
    have hll : (lst L2.length (tr (zt q g) L2.length b3 (rz q L2))).length = L2.length := lst_length _ _
    obtain ⟨Y, hY⟩ : ∃ Y, Y = lst L2.length (tr (zt q g) L2.length b3 (rz q L2)) := ⟨_, rfl⟩
    rw [← hY] at HRn hll hR6
    have HLL := Lib.hid hll
    have HR6 := Lib.hid hR6
    have t1 : ((L2.length : Int) == N1) = true := by simp [hNL]
    have hpos : 0 < N1 := by omega
    have t2 : decide (N1 > 0) = true := decide_eq_true hpos
    have t2b : decide (0 < N1) = true := decide_eq_true hpos
    clear hO6 hY hll hR6 h1 hEr h3 h5 hchk hNL hpos
    have HR7 : Hid (∀ W, Below w6.heap.size w6 W → RdI W W.heap.size .u64 A6 Y) := Lib.hid (fun W hW => (HR6.out.below hW).mono hW.size)
    clear hB6
    go_wp2_with fail
    refine HSm6.out.mono ?_
    rintro e w7 ⟨rfl, hB7⟩
    have R7 := Lib.hid (KP.out _ _ R6.out hB7)
    have d1 := R7.out.2.1.cell (i := 1) (v := .int .i64 N1) rfl
    have HB67 := Lib.hid hB7
    clear hB7 R6
    go_wp2_with (refine wpList_load_row rfl _ _ rfl _ rfl _ _ _ _ (R7.out.2.1) Tryz.underlying27 rfl (by exact size_rplan) ?_)
    refine (HG.out _).mono ?_
    rintro e w8 ⟨rfl, hB8⟩
    have HB8 := Lib.hid (R7.out.2.2.trans (hB8.mono R7.out.2.2.size))
    have HB68 := Lib.hid (HB67.out.trans (hB8.mono HB67.out.size))
    have HLg := Lib.hid (HGd.out w8 HB8.out)
    clear hB8 d1
    go_wp2_with fail
    refine HLg.out.mono ?_
    rintro e w9 ⟨rfl, rfl⟩
    by_cases h32 : 32 < L2.length
    ·have t3 : decide ((L2.length : Int) > 32) = true := decide_eq_true (by omega)
     have t3b : decide (32 < L2.length) = true := decide_eq_true h32
     clear h32
     go_wp2
     go_ret
     exact ⟨by first | rfl | simp, HB8.out⟩
    ·have t3 : decide ((L2.length : Int) > 32) = false := decide_eq_false (by omega)
     have t3b : decide (32 < L2.length) = false := decide_eq_false h32
     have HRr := Lib.hid (HRn.out w8 HB8.out)
     clear h32
     go_wp2_with fail
     refine HRr.out.mono ?_
     rintro r w10 ⟨V8, rfl, hO8, hB9⟩
     obtain ⟨A8, c8, rfl, hR8⟩ := hO8.rd
     have hS8 := same_any A6 A8 c6 c8 w10.heap.size Y Y w10 (by rw [HLL.out]; omega) (by rw [HLL.out]; omega) (HR7.out w10 (HB68.out.trans (hB9.mono HB68.out.size))) hR8
     rw [HLL.out, show decide (Y = Y) = true by simp] at hS8
     have HS8 := Lib.hid hS8
     have HB10 := Lib.hid (HB8.out.trans (hB9.mono HB8.out.size))
     clear hO8 hR8 hS8 hB9
     go_wp2_with fail
     refine HS8.out.mono ?_
     rintro r w11 ⟨rfl, hB11⟩
     go_wp2
     go_ret
     exact ⟨by first | rfl | simp, HB10.out.trans (hB11.mono HB10.out.size)⟩
end Go.Proofs.YtmalmijdjhkklaaGreat
