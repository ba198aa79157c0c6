/- The law Radix4Is. -/
import Derived.Test.YtgdadkkiefkimaaGreatRad4F
import Derived.Test.YtgdadkkiefkimaaGreatMade13
import Derived.Test.YtgdadkkiefkimaaGreatWRef16Ref05Same13
import Derived.Laws.AppendOwnNone
set_option linter.unusedVariables false
set_option linter.unusedSimpArgs false
set_option linter.unusedSectionVars false
set_option linter.unusedVariables false
set_option linter.unusedSimpArgs false
namespace Go.Proofs.YtgdadkkiefkimaaGreat
open Go.RowKit
open Alg

theorem prime5 : Prime 5 := ⟨by decide, fun d hd => by
  have := Nat.le_of_dvd (by decide) hd
  rcases (show d = 0 ∨ d = 1 ∨ d = 2 ∨ d = 3 ∨ d = 4 ∨ d = 5 by omega) with rfl | rfl | rfl | rfl | rfl | rfl
  · omega
  · exact .inl rfl
  · omega
  · omega
  · omega
  · exact .inr rfl⟩
theorem gen5 : IsGen 5 2 := by
  refine ⟨by omega, fun q hq hd => ?_, fun h a b => by omega⟩
  have h4 := Nat.le_of_dvd (by decide) hd
  have := hq.1
  rcases (show q = 2 ∨ q = 3 ∨ q = 4 by omega) with rfl | rfl | rfl <;> decide
theorem oddP5 : OddP 5 := ⟨by decide, by decide, prime5⟩
theorem alive13_val : lst (p := 5) 4 (tr (zt 5 2) 4 false (rz 5 [1, 2, 3, 4])) = [0, 4, 3, 2] := by decide
theorem fault13_5 : fault13 5 [1, 2, 3, 4] = 0 := by decide
theorem Cert.nat {q : Nat} {g : Int} (h : Cert (q : Int) g) : Prime q ∧ ∀ [NeZero q], Ord (zt q g) (q - 1) := h.prime
/-- A literal list in memory. -/
theorem RdU.lit (w : World) (xs : List Int) : RdI (w.alloc (.cells (ints .u64 xs).toArray 22)) (w.heap.size + 1) .u64 (some ⟨w.heap.size, 0, none⟩) xs := fun _ => by
  refine ⟨w.heap.size, 0, rfl, by omega, fun j hj => ?_⟩
  rw [Nat.zero_add, World.cell?_alloc_at _ _ _ _ rfl]
  simp [ints, hj, List.getD_eq_getElem?_getD]
/-- Small at 5. -/
theorem small5_any (w : World) : Calls Tryz.prog 54 #[.int .u64 5] w fun r w' => ∃ v, r = .returned (.tuple #[v, .int .i64 0]) ∧ Cert 5 2 ∧ Fd w' w'.heap.size v 5 2 ∧ Below w.heap.size w w' := by
  refine (Small_any 5 w (by omega) (by omega)).mono ?_
  rintro r w' (⟨_, g, hg, hM⟩ | ⟨hn, _⟩)
  · obtain rfl : g = 2 := hg.unique gen5
    obtain ⟨hB, ⟨er, h0, _⟩ | ⟨v, _, hc, hr, hF⟩⟩ := hM
    · omega
    · exact ⟨v, hr, hc, hF, hB⟩
  · exact absurd oddP5 hn
theorem alive13_any (w : World) : Calls Tryz.prog 45 #[] w fun e w' => e = .returned (.bool true) ∧ Below w.heap.size w w' := by
  go_enter Tryz.func45, Tryz.ntmps45
  go_wp2_with fail
  refine (small5_any w).mono ?_
  rintro r w1 ⟨v, rfl, hC, hF, hB1⟩
  have HC : Hid (Ord (zt 5 2) (5 - 1)) := Lib.hid ((Cert.nat (q := 5) hC).2)
  have HF := Lib.hid hF
  clear hC hF
  go_wp2_with fail
  have hL1 := RdU.lit w1 [1, 2, 3, 4]
  have hB2 := (Below.refl w1.heap.size w1).alloc (Nat.le_refl _) (.cells (ints .u64 [1, 2, 3, 4]).toArray 22)
  have hBw := hB1.trans (hB2.mono hB1.size)
  have hsz : (w1.alloc (.cells (ints .u64 [1, 2, 3, 4]).toArray 22)).heap.size = w1.heap.size + 1 := by simp
  have hF2 := (HF.out.below hB2).mono hB2.size
  have hR := r4run_yes (p := 5) prime5 HC.out (by omega) (by omega) hF2 (some ⟨w1.heap.size, 0, none⟩) 4 [1, 2, 3, 4] false (fun x hx => by simp at hx; omega) (by rw [hsz]; exact hL1) fault13_5
  refine hR.mono ?_
  rintro r w2 ⟨V, rfl, hO, hB3⟩
  have hv : (lst (p := 5) 4 (tr (zt 5 2) 4 false (rz 5 [1, 2, 3, 4]))) = [0, 4, 3, 2] := alive13_val
  have hO' : OwnU w2 (w1.alloc (.cells (ints .u64 [1, 2, 3, 4]).toArray 22)).heap.size V 4 [0, 4, 3, 2] := hv ▸ hO
  obtain ⟨A, c, rfl, hRd⟩ := hO'.rd
  have hBz := hBw.trans (hB3.mono hBw.size)
  clear hL1 hB2 hBw hF2 hR hO hO' hv hB3
  go_wp2_with fail
  have hL2 := RdU.lit w2 [0, 4, 3, 2]
  have hB4 := (Below.refl w2.heap.size w2).alloc (Nat.le_refl _) (.cells (ints .u64 [0, 4, 3, 2]).toArray 22)
  refine (same_any A (some ⟨w2.heap.size, 0, none⟩) c 4 (w2.heap.size + 1) [0, 4, 3, 2] [0, 4, 3, 2] _ (by simp) (by simp) ((hRd.below hB4).mono (Nat.le_succ _)) hL2).mono ?_
  rintro r w3 ⟨rfl, hB5⟩
  have hBf := (hBz.alloc hBz.size (.cells (ints .u64 [0, 4, 3, 2]).toArray 22)).trans (hB5.mono (by have := hBz.size; simp; omega))
  clear hL2 hB4 hRd hB5
  go_wp2
  go_ret
  exact ⟨by first | rfl | simp, hBf⟩

theorem MadeR.below' {v : Value} {p g : Int} {w w' : World} (h : MadeR v p g w) (hb : Below w.heap.size w w') : MadeR v p g w' := by
  rcases h with h | ⟨a, b, c⟩
  · exact .inl h
  · exact .inr ⟨a, b, (c.below hb).mono hb.size⟩
set_option maxHeartbeats 4000000 in
set_option maxRecDepth 100000 in
theorem radix4Is_walk (A AL : Option Addr) (c cL : Nat) (kind kk p : Int) (inv : Bool) (es : List Ent) (L : List Int) (w : World) (h0 : 0 ≤ p) (h1 : p ≤ 18446744073709551615)
    (hlm : es.length ≤ 140737488351232) (hlc : es.length ≤ c) (hR : RdE w w.heap.size A es) (hE : ∀ e ∈ es, EntOk e) (hLl : L.length ≤ 140737488351232) (hLU : U64s L) (hLR : RdI w w.heap.size .u64 AL L) (hAL : AL = none → cL = 0) :
    Calls Tryz.prog 11 #[.agg #[.int .i64 kind, .int .i64 kk, .int .u64 p, .slice A es.length c], .slice AL L.length cL, .bool inv] w fun e w' => e = .returned (.bool true) ∧ Below w.heap.size w w' := by
  obtain ⟨i0, hi, hz0, hz1, hz2⟩ := info_parts info_u64
  have HE := Lib.hid hE
  have HU := Lib.hid hLU
  have hB0 := (Below.refl w.heap.size w).alloc (Nat.le_refl _) (.cells #[.int .i64 kind, .int .i64 kk, .int .u64 p, .slice A es.length c] 25)
  have b0 : (w.alloc (.cells #[.int .i64 kind, .int .i64 kk, .int .u64 p, .slice A es.length c] 25)).cell? ⟨w.heap.size, 0, none⟩ = some (.int .i64 kind) := World.cell?_alloc_at _ _ _ _ rfl
  have b1 : (w.alloc (.cells #[.int .i64 kind, .int .i64 kk, .int .u64 p, .slice A es.length c] 25)).cell? ⟨w.heap.size, 1, none⟩ = some (.int .i64 kk) := World.cell?_alloc_at _ _ _ _ rfl
  have b2 : (w.alloc (.cells #[.int .i64 kind, .int .i64 kk, .int .u64 p, .slice A es.length c] 25)).cell? ⟨w.heap.size, 2, none⟩ = some (.int .u64 p) := World.cell?_alloc_at _ _ _ _ rfl
  have b3 : (w.alloc (.cells #[.int .i64 kind, .int .i64 kk, .int .u64 p, .slice A es.length c] 25)).cell? ⟨w.heap.size, 3, none⟩ = some (.slice A es.length c) := World.cell?_alloc_at _ _ _ _ rfl
  have hs1 : w.heap.size + 1 ≤ (w.alloc (.cells #[.int .i64 kind, .int .i64 kk, .int .u64 p, .slice A es.length c] 25)).heap.size := by simp
  have hAl := Lib.hid (alive13_any (w.alloc (.cells #[.int .i64 kind, .int .i64 kk, .int .u64 p, .slice A es.length c] 25)))
  clear hE hLU
  go_enter Tryz.func11, Tryz.ntmps11
  go_wp2_with fail
  generalize w.alloc (.cells #[.int .i64 kind, .int .i64 kk, .int .u64 p, .slice A es.length c] 25) = w1 at *
  refine hAl.out.mono ?_
  rintro r w2 ⟨rfl, hB2⟩
  have d0 := cell_keep hB2 (by omega) b0
  have d1 := cell_keep hB2 (by omega) b1
  have d2 := cell_keep hB2 (by omega) b2
  have d3 := cell_keep hB2 (by omega) b3
  have hBw := hB0.trans (hB2.mono (show w.heap.size ≤ w1.heap.size by omega))
  have hR2 := (hR.below hBw).mono hBw.size
  have hL2 := (hLR.below hBw).mono hBw.size
  clear b0 b1 b2 b3 hR hB0 hB2 hAl hLR
  by_cases hlong : 4200 < L.length
  · have t : decide ((4200 : Int) < L.length) = true := by simp; omega
    go_wp2
    go_ret
    exact ⟨rfl, hBw⟩
  · have t : decide ((4200 : Int) < L.length) = false := by simp; omega
    go_wp2_with fail
    refine (made_any A c kind kk p es w2 h0 h1 hlm hlc hR2 HE.out).mono ?_
    rintro r w3 ⟨v, p', g', rfl, hM, hB3⟩
    have hBx := hBw.trans (hB3.mono hBw.size)
    have hL3 := (hL2.below hB3).mono hB3.size
    have HM := Lib.hid hM
    clear d0 d1 d2 d3 hR2 hBw hM hL2 hs1 hB3 t
    go_upto_region 6 with fail
    go_cut [10] (fun V wx => ∃ A' c', V = .slice A' L.length c' ∧ RdI wx wx.heap.size .u64 A' L ∧ Below w3.heap.size w3 wx)
    case first =>
      have hB := (Below.refl w3.heap.size w3).alloc (Nat.le_refl _) (.cells #[] 22)
      have hown : (w3.alloc (.cells #[] 22)).ownsRow w3.heap.size 22 1 (.slice (some ⟨w3.heap.size, 0, none⟩) 0 0) 0 [] := World.ownsRow_lit w3 #[] 0 (Nat.le_refl _) (by unfold maxLen; omega) rfl
      rcases AL with _ | ad
      · have hf : L = [] := by
          rcases Nat.eq_zero_or_pos L.length with h | h
          · exact List.eq_nil_of_length_eq_zero h
          · obtain ⟨b, o, h, _⟩ := hL3 h
            cases h
        have hc0 := hAL rfl
        subst hf
        subst hc0
        clear hL3 hLl hlong
        go_wp2_with (at_builtin; refine wpList_append_own_none rfl _ _ 85 rfl w3.heap.size 22 i0 1 Tryz.underlying85 hi _ 0 [] rfl hown rfl ?_)
        go_wp2
        go_meet
        exact ⟨_, _, rfl, fun h => by simp at h, hB⟩
      · have hcells : ∀ j u, (ints .u64 L)[j]? = some u → w3.cell? (ad.add j) = some u := by
          intro j u hu
          have hj : j < L.length := by
            rcases Nat.lt_or_ge j L.length with h | h
            · exact h
            · rw [List.getElem?_eq_none (by rw [ints_length]; exact h)] at hu; cases hu
          obtain ⟨b, o, h, _, hc⟩ := hL3 (by omega)
          have h' : ad = ⟨b, o, none⟩ := Option.some.inj h
          rw [h']
          have h2 := hc j hj
          have h3 : u = .int .u64 (L.getD j 0) := by
            simp [ints, List.getElem?_eq_getElem hj] at hu
            rw [← hu, List.getD_eq_getElem?_getD, List.getElem?_eq_getElem hj]; rfl
          rw [h3, ← h2, addrN]
        have HC : Hid (∀ j u, (ints .u64 L)[j]? = some u → (w3.alloc (.cells #[] 22)).cell? (ad.add j) = some u) := Lib.hid (fun j u hu => by
          have h1 := hcells j u hu
          exact (hB.cell (World.block_lt_of_cell? w3 _ h1)).trans h1)
        have H1 : Hid (∀ u ∈ ints .u64 L, u.oneCell' = true) := Lib.hid (fun u hu => by
          obtain ⟨x, _, rfl⟩ := List.mem_map.1 hu
          rfl)
        clear hcells hL3
        go_wp2_with (at_builtin; refine wpList_append_own _ rfl _ _ 85 rfl w3.heap.size 22 i0 (.int .u64 0) 1 8 Tryz.underlying85 hi hz0 hz1 hz2 rfl (by decide) _ 0 [] rfl hown ad L.length cL (ints .u64 L) rfl ?c0 HC.out H1.out ?c3 ?c4 ?c5 ?_)
        case c0 => rw [ints_length]; omega
        case c3 => unfold maxLen; omega
        case c4 => omega
        case c5 => simp
        intro v' w4 hown' hgrow _
        have hO : OwnU w4 w3.heap.size v' L.length L := by
          unfold OwnU
          simpa using hown'
        have hB4 : Below w3.heap.size w3 w4 := hB.grown hgrow (by simp) (fun k hk => by simp [Value.ownBlock] at hk; omega)
        have HO := Lib.hid hO
        clear hown' hown hgrow hO hB
        go_wp2
        go_meet
        obtain ⟨A', c', he, hRd⟩ := HO.out.rd
        exact ⟨A', c', he, hRd, hB4⟩
    case rest =>
      obtain ⟨A', c', rfl, hRl, hBc⟩ := hcut
      have hBz := hBx.trans (hBc.mono hBx.size)
      have hL4 := (hL3.below hBc).mono hBc.size
      have HM4 := Lib.hid (HM.out.below' hBc)
      clear HM hL3 hBx hBc
      rcases HM4.out with ⟨rfl, rfl, rfl⟩ | ⟨p3, hC, hF⟩
      · clear HM4
        go_wp2_with fail
        refine (r4run_nil _ _ _ _ _).mono ?_
        rintro r w5 ⟨rfl, rfl⟩
        go_wp2_with fail
        refine (same_any A' AL c' cL wc.heap.size L L wc (by omega) (by omega) hRl hL4).mono ?_
        rintro r w6 ⟨rfl, hB6⟩
        go_wp2
        go_ret
        exact ⟨by first | rfl | simp, hBz.trans (hB6.mono hBz.size)⟩
      · obtain ⟨q, rfl⟩ := Int.eq_ofNat_of_zero_le (show 0 ≤ p' by omega)
        have pm := hF.pmx
        haveI : NeZero q := ⟨by omega⟩
        obtain ⟨hp, hord⟩ := hC.nat
        have hg := hC.gr
        have HO : Hid (Ord (zt q g') (q - 1)) := Lib.hid hord
        have HP := Lib.hid hp
        have HF := Lib.hid hF
        have tp : ((q : Int) == 0) = false := by simp; omega
        have HPM := Lib.hid (And.intro p3 pm)
        have hg0 : 0 ≤ g' := by omega
        have HG := Lib.hid hg
        have hqg : Hid (g' < (q : Int)) := Lib.hid hg.2
        clear HM4 hC hF hp hord hg p3 pm
        by_cases hf : fault13 q L = 0
        · obtain ⟨hck, _, _⟩ := fault13_zero hf
          have HY := Lib.hid (r4run_yes HP.out HO.out hg0 hqg.out HF.out A' c' L inv HU.out hRl hf)
          have HRf := Lib.hid (r13fault_any AL cL wc.heap.size q L · HPM.out.1 HPM.out.2 (by omega))
          rw [hf] at HRf
          have HRR : Hid (runR q g' L inv = lst L.length (tr (zt q g') L.length inv (rz q L))) := Lib.hid (runR_eq inv (by have := HPM.out.1; omega) HO.out hck)
          have HRn : Hid (∀ wz, RdI wz wz.heap.size .u64 AL L → Calls Tryz.prog 50 #[.int .u64 q, .int .u64 g', .slice AL L.length cL, .bool inv] wz fun r w' => ∃ V, r = .returned V ∧ OwnU w' wz.heap.size V L.length (lst L.length (tr (zt q g') L.length inv (rz q L))) ∧ Below wz.heap.size wz w') := Lib.hid (fun wz hz => by
            have h1 := r11run_yes q g' L inv AL cL wz HPM.out.1 HPM.out.2 hg0 hqg.out hck HU.out hz
            rw [HRR.out] at h1
            exact h1)
          have hll : (lst L.length (tr (zt q g') L.length inv (rz q L))).length = L.length := lst_length _ _
          obtain ⟨Y, hY⟩ : ∃ Y, Y = lst L.length (tr (zt q g') L.length inv (rz q L)) := ⟨_, rfl⟩
          rw [← hY] at HY HRn hll
          have HLL := Lib.hid hll
          clear hf hck hY HRR hll
          go_wp2_with fail
          refine HY.out.mono ?_
          rintro r w5 ⟨V, rfl, hO5, hB5⟩
          obtain ⟨A5, c5, rfl, hR5⟩ := hO5.rd
          have hBa := hBz.trans (hB5.mono hBz.size)
          have hRl5 := (hRl.below hB5).mono hB5.size
          have hL5 := (hL4.below hB5).mono hB5.size
          have HL5 := Lib.hid hL5
          have HR5 := Lib.hid hR5
          have HSm := Lib.hid (same_any A' AL c' cL w5.heap.size L L w5 (by omega) (by omega) hRl5 hL5)
          have hws5 := hB5.size
          have HRf2 : Hid (∀ w6, Below w5.heap.size w5 w6 → Calls Tryz.prog 49 #[.int .u64 q, .slice AL L.length cL] w6 fun e w' => e = .returned (.int .i64 0) ∧ w6 = w') := Lib.hid (fun w6 h6 => HRf.out w6 ((hL4.below hB5).below (h6.mono hws5)))
          clear hO5 hRl5 hL5 hR5 hRl hL4 hB5 HRf
          go_wp2_with fail
          refine HSm.out.mono ?_
          rintro r w6 ⟨rfl, hB6⟩
          have hBb := hBa.trans (hB6.mono hBa.size)
          have t1 : decide (L = L) = true := by simp
          go_wp2_with fail
          refine (HRf2.out w6 hB6).mono ?_
          rintro r w7 ⟨rfl, rfl⟩
          by_cases h32 : 32 < L.length
          · have t3 : decide ((32 : Int) < L.length) = true := by simp; omega
            clear h32
            go_wp2
            go_ret
            exact ⟨by first | rfl | simp, hBb⟩
          · have t3 : decide ((32 : Int) < L.length) = false := by simp; omega
            have HL6 := Lib.hid ((HL5.out.below hB6).mono hB6.size)
            have HR6 := Lib.hid ((HR5.out.below hB6).mono hB6.size)
            clear h32 hB6
            go_wp2_with fail
            refine (HRn.out w6 HL6.out).mono ?_
            rintro r w8 ⟨V8, rfl, hO8, hB8⟩
            obtain ⟨A8, c8, rfl, hR8⟩ := hO8.rd
            have hS8 := same_any A5 A8 c5 c8 w8.heap.size Y Y w8 (by rw [HLL.out]; omega) (by rw [HLL.out]; omega) ((HR6.out.below hB8).mono hB8.size) hR8
            rw [HLL.out] at hS8
            have HS8 := Lib.hid hS8
            have hBd := hBb.trans (hB8.mono hBb.size)
            clear hO8 hR8 hS8 hB8
            go_wp2_with fail
            refine HS8.out.mono ?_
            rintro r w9 ⟨rfl, hB9⟩
            go_wp2
            go_ret
            exact ⟨by first | rfl | simp, hBd.trans (hB9.mono hBd.size)⟩
        · have tf : (fault13 q L != 0) = true := by simp [hf]
          have HN := Lib.hid (r4run_no HF.out A' c' L inv (by omega) HU.out hRl hf)
          have HRf := Lib.hid (r13fault_any AL cL wc.heap.size q L · HPM.out.1 HPM.out.2 (by omega))
          have HSm := Lib.hid (same_any A' AL c' cL wc.heap.size L L wc (by omega) (by omega) hRl hL4)
          have hL5 : ∀ w6, Below wc.heap.size wc w6 → RdI w6 wc.heap.size .u64 AL L := fun w6 h6 => hL4.below h6
          have HL5 := Lib.hid hL5
          obtain ⟨z, hz⟩ : ∃ z, z = fault13 q L := ⟨_, rfl⟩
          rw [← hz] at tf HN HRf
          clear hf hz hRl hL4 hL5
          go_wp2_with fail
          refine HN.out.mono ?_
          rintro r w5 ⟨rfl, rfl⟩
          go_wp2_with fail
          refine HSm.out.mono ?_
          rintro r w6 ⟨rfl, hB6⟩
          have t1 : decide (L = L) = true := by simp
          go_wp2_with fail
          refine (HRf.out w6 (HL5.out w6 hB6)).mono ?_
          rintro r w7 ⟨rfl, rfl⟩
          go_wp2
          go_ret
          exact ⟨by first | rfl | simp, hBz.trans (hB6.mono hBz.size)⟩
end Go.Proofs.YtgdadkkiefkimaaGreat
