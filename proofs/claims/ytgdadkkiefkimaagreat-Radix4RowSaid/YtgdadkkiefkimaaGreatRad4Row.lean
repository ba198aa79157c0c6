/- The law Radix4Row: the walk. -/
import Derived.Test.YtgdadkkiefkimaaGreatRad4U
import Derived.OneCell
set_option linter.unusedVariables false
set_option linter.unusedSimpArgs false
set_option linter.unusedSectionVars false
set_option linter.unusedVariables false
set_option linter.unusedSimpArgs false
namespace Go.Proofs.YtgdadkkiefkimaaGreat
open Go.RowKit
open Alg

theorem le_u64 {W q : Int} (h : W < q) (h2 : q < 9223372036854775808) : W ≤ 18446744073709551615 := by omega
theorem wrapsE {E : Nat} (h : E ≤ 255 * 255) : IntKind.i64.wrap (E : Int) = E ∧ wrap64 (E : Int) = E ∧ IntKind.u64.wrap (E : Int) = E ∧ 0 ≤ (E : Int) ∧ (E : Int) ≤ 18446744073709551615 := by
  have h1 : IntKind.i64.wrap (E : Int) = E := IntWalk.i64_in _ (by omega)
  exact ⟨h1, (IntWalk.i64_left _).symm.trans h1, IntWalk.u64_in _ (by omega), by omega, by omega⟩
theorem u64w_nonneg (x : Int) : 0 ≤ IntKind.u64.wrap x := by
  first
    | exact Int.emod_nonneg _ (by decide)
    | (unfold IntKind.wrap; split <;> omega)
    | (simp [IntKind.wrap]; omega)
set_option maxHeartbeats 4000000 in
set_option maxRecDepth 100000 in
theorem radix4Row_walk (A : Option Addr) (c : Nat) (kind kk p n at' x : Int) (es : List Ent) (w : World) (h0 : 0 ≤ p) (h1 : p ≤ 18446744073709551615)
    (hn0 : -9223372036854775808 ≤ n) (hn1 : n ≤ 9223372036854775807) (ha0 : -9223372036854775808 ≤ at') (ha1 : at' ≤ 9223372036854775807) (hx0 : 0 ≤ x) (hx1 : x ≤ 18446744073709551615)
    (hlm : es.length ≤ 140737488351232) (hlc : es.length ≤ c) (hR : RdE w w.heap.size A es) (hE : ∀ e ∈ es, EntOk e) :
    Calls Tryz.prog 12 #[.agg #[.int .i64 kind, .int .i64 kk, .int .u64 p, .slice A es.length c], .int .i64 n, .int .i64 at', .int .u64 x] w fun e w' => e = .returned (.bool true) ∧ Below w.heap.size w w' := by
  obtain ⟨i0, hi, hz0, hz1, hz2⟩ := info_parts info_u64
  have HE := Lib.hid hE
  have hB0 := (Below.refl w.heap.size w).alloc (Nat.le_refl _) (.cells #[.int .i64 kind, .int .i64 kk, .int .u64 p, .slice A es.length c] 25)
  have b0 : (w.alloc (.cells #[.int .i64 kind, .int .i64 kk, .int .u64 p, .slice A es.length c] 25)).cell? ⟨w.heap.size, 0, none⟩ = some (.int .i64 kind) := World.cell?_alloc_at _ _ _ _ rfl
  have b1 : (w.alloc (.cells #[.int .i64 kind, .int .i64 kk, .int .u64 p, .slice A es.length c] 25)).cell? ⟨w.heap.size, 1, none⟩ = some (.int .i64 kk) := World.cell?_alloc_at _ _ _ _ rfl
  have b2 : (w.alloc (.cells #[.int .i64 kind, .int .i64 kk, .int .u64 p, .slice A es.length c] 25)).cell? ⟨w.heap.size, 2, none⟩ = some (.int .u64 p) := World.cell?_alloc_at _ _ _ _ rfl
  have b3 : (w.alloc (.cells #[.int .i64 kind, .int .i64 kk, .int .u64 p, .slice A es.length c] 25)).cell? ⟨w.heap.size, 3, none⟩ = some (.slice A es.length c) := World.cell?_alloc_at _ _ _ _ rfl
  have hs1 : w.heap.size + 1 ≤ (w.alloc (.cells #[.int .i64 kind, .int .i64 kk, .int .u64 p, .slice A es.length c] 25)).heap.size := by simp
  have hAl := Lib.hid (alive13_any (w.alloc (.cells #[.int .i64 kind, .int .i64 kk, .int .u64 p, .slice A es.length c] 25)))
  clear hE
  go_enter Tryz.func12, Tryz.ntmps12
  go_wp2_with fail
  generalize w.alloc (.cells #[.int .i64 kind, .int .i64 kk, .int .u64 p, .slice A es.length c] 25) = w1 at *
  refine hAl.out.mono ?_
  rintro r w2 ⟨rfl, hB2⟩
  have d0 := cell_keep hB2 (by omega) b0
  have d1 := cell_keep hB2 (by omega) b1
  have d2 := cell_keep hB2 (by omega) b2
  have d3 := cell_keep hB2 (by omega) b3
  have hBw := hB0.trans (hB2.mono (show w.heap.size ≤ w1.heap.size by omega))
  have hR2 := (hR.below hBw).mono hBw.size
  clear b0 b1 b2 b3 hR hB0 hB2 hAl
  go_wp2_with fail
  refine (made_any A c kind kk p es w2 h0 h1 hlm hlc hR2 HE.out).mono ?_
  rintro r w3 ⟨v, p', g', rfl, hM, hB3⟩
  have hBx := hBw.trans (hB3.mono hBw.size)
  clear d0 d1 d2 d3 hR2 hBw hs1 hB3 HE
  rcases hM with ⟨rfl, rfl, rfl⟩ | ⟨p3, hC, hF⟩
  · go_wp2
    go_ret
    exact ⟨rfl, hBx⟩
  · obtain ⟨q, rfl⟩ := Int.eq_ofNat_of_zero_le (show 0 ≤ p' by omega)
    have pm := hF.pmx
    haveI : NeZero q := ⟨by omega⟩
    obtain ⟨hp, hord⟩ := hC.nat
    have hg := hC.gr
    have HO : Hid (Ord (zt q g') (q - 1)) := Lib.hid hord
    have HP := Lib.hid hp
    have HF := Lib.hid hF
    have tp : ((q : Int) == 0) = false := by simp; omega
    have HPM := Lib.hid (And.intro p3 pm)
    have hg0 : 0 ≤ g' := by omega
    have HG := Lib.hid hg
    have hqg : Hid (g' < (q : Int)) := Lib.hid hg.2
    clear hC hF hp hord hg p3 pm
    by_cases c1 : n < 1
    · have t1 : decide (n < 1) = true := by simpa using c1
      go_wp2
      go_ret
      exact ⟨rfl, hBx⟩
    have t1 : decide (n < 1) = false := by simpa using c1
    by_cases c2 : 256 < n
    · have t2 : decide (256 < n) = true := by simpa using c2
      go_wp2
      go_ret
      exact ⟨rfl, hBx⟩
    have t2 : decide (256 < n) = false := by simpa using c2
    by_cases c3 : (q : Int) ≤ x
    · have t3 : decide ((q : Int) ≤ x) = true := by simpa using c3
      go_wp2
      go_ret
      exact ⟨rfl, hBx⟩
    have t3 : decide ((q : Int) ≤ x) = false := by simpa using c3
    have HXq : Hid (x < (q : Int)) := Lib.hid (by omega)
    clear c3
    obtain ⟨N, rfl⟩ := Int.eq_ofNat_of_zero_le (show 0 ≤ n by omega)
    have N1 : 1 ≤ N := by omega
    have N2 : N ≤ 256 := by omega
    have hK : 0 ≤ IntKind.u64.wrap at' % (N : Int) ∧ IntKind.u64.wrap at' % (N : Int) < (N : Int) := ⟨Int.emod_nonneg _ (by omega), Int.emod_lt_of_pos _ (by omega)⟩
    obtain ⟨u, hu⟩ : ∃ u, IntKind.u64.wrap at' = u := ⟨_, rfl⟩
    rw [hu] at hK
    obtain ⟨K, hKe⟩ := Int.eq_ofNat_of_zero_le hK.1
    rw [hKe] at hK
    have hT : u.tmod (N : Int) = (K : Int) := by rw [Int.tmod_eq_emod_of_nonneg (by rw [← hu]; exact u64w_nonneg _)]; exact hKe
    have hKN : K < N := by omega
    have wN : IntKind.u64.wrap (N : Int) = N := IntWalk.u64_in _ (by omega)
    have wK : IntKind.i64.wrap (K : Int) = K := IntWalk.i64_in _ (by omega)
    have wK' : wrap64 (K : Int) = K := (IntWalk.i64_left _).symm.trans wK
    have zN : ((N : Int) == 0) = false := by simp; omega
    clear c1 c2 hK hKe
    go_wp2_with (at_make; refine wpList_make_full _ rfl _ _ 85 rfl w3.heap.size 22 i0 (.int .u64 0) 1 Tryz.underlying85 hi hz0 hz1 _ _ _ _ N rfl rfl ?l1 ?l2 ?b2 ?b3 (Nat.le_refl _) ?_)
    case l1 => omega
    case l2 => omega
    case b2 => rw [hz2]; omega
    case b3 => unfold maxLen; omega
    intro w4 hown4 hgrow4
    have hO4 : OwnU w4 w3.heap.size (.slice (some ⟨w3.heap.size, 0, none⟩) N N) N (part N (fun _ => x) 0) := by
      unfold OwnU
      rw [part_zero, ints_zero', ← toList_madeCells_one]; exact hown4
    have hB4 : Below w3.heap.size w3 w4 := (Below.refl w3.heap.size w3).grown hgrow4 (Nat.le_refl _) (fun k h => by cases h)
    have h34 : w3.heap.size < w4.heap.size := (World.ownsRow.lt hown4 w3.heap.size rfl).2
    obtain ⟨G1, hG1⟩ : ∃ G, G = w3.heap.size := ⟨_, rfl⟩
    have hO4' : OwnU w4 w3.heap.size (.slice (some ⟨G1, 0, none⟩) N N) N (part N (fun _ => x) 0) := by rw [hG1]; exact hO4
    have hG1b : w3.heap.size ≤ G1 := by omega
    rw [← hG1]
    rw [← hG1] at h34
    clear hown4 hgrow4 hO4 hG1
    go_wp2_with (at_make; refine wpList_make_full _ rfl _ _ 85 rfl w3.heap.size 22 i0 (.int .u64 0) 1 Tryz.underlying85 hi hz0 hz1 _ _ _ _ N rfl rfl ?l1 ?l2 ?b2 ?b3 hB4.size ?_)
    case l1 => omega
    case l2 => omega
    case b2 => rw [hz2]; omega
    case b3 => unfold maxLen; omega
    intro w5 hown5 hgrow5
    have hO5 : OwnU w5 w3.heap.size (.slice (some ⟨w4.heap.size, 0, none⟩) N N) N (part N (fun _ => x) 0) := by
      unfold OwnU
      rw [part_zero, ints_zero', ← toList_madeCells_one]; exact hown5
    have hB5' : Below w4.heap.size w4 w5 := (Below.refl w4.heap.size w4).grown hgrow5 (Nat.le_refl _) (fun k h => by cases h)
    have hB5 := hB4.trans (hB5'.mono hB4.size)
    have hO45 := hO4'.below hB5'
    obtain ⟨G2, hG2⟩ : ∃ G, G = w4.heap.size := ⟨_, rfl⟩
    rw [← hG2] at hO5 h34
    have hG2b : w3.heap.size ≤ G2 := by omega
    rw [← hG2]
    have hne : G1 ≠ G2 := by omega
    clear hown5 hgrow5 hG2 hB4 hB5' hO4' h34
    obtain ⟨hset, hce, hfr, _⟩ := hO45.set K hKN 1
    rw [oneL_set] at hset
    have hO5s : OwnU (w5.setCell ⟨G1, K, none⟩ (.int .u64 1)) w3.heap.size (.slice (some ⟨G2, 0, none⟩) N N) N (part N (fun _ => x) 0) := ownsRow_setCell_other hO5 (by simpa [Value.ownBlock] using fun h => hne h.symm) _
    have hB6 : Below w3.heap.size w3 (w5.setCell ⟨G1, K, none⟩ (.int .u64 1)) := hB5.setCell hG1b _
    have HO6 := Lib.hid hset
    have HO7 := Lib.hid hO5s
    have HB6 := Lib.hid hB6
    clear hset hO5s hB6 hO45 hO5 hB5
    go_wp2
    clear hT wK wK' zN hce hfr hz0 hz1 hz2 hi t1 t2 t3 tp
    go_loopw [15, 62] (fun _ I wr => ∃ k : Nat, k ≤ N ∧ I = .int .i64 k ∧ OwnU wr w3.heap.size (.slice (some ⟨G2, 0, none⟩) N N) N (part N (fun _ => x) k) ∧ OwnU wr w3.heap.size (.slice (some ⟨G1, 0, none⟩) N N) N (oneL N K) ∧ Below w3.heap.size w3 wr) (fun _ I _ => N - (intOf I).toNat)
    case atStart => exact ⟨0, by omega, rfl, HO7.out, HO6.out, HB6.out⟩
    case round =>
      clear HO7 HO6 HB6
      obtain ⟨k, hk, rfl, ho2, ho1, hB⟩ := hrel
      by_cases hlt : k < N
      · obtain ⟨hset, hce, hfr, _⟩ := ho2.set k hlt x
        have hps : (part N (fun _ => x) k).set k x = part N (fun _ => x) (k + 1) := part_step
        rw [hps] at hset
        have ho1s : OwnU (wr.setCell ⟨G2, k, none⟩ (.int .u64 x)) w3.heap.size (.slice (some ⟨G1, 0, none⟩) N N) N (oneL N K) := ownsRow_setCell_other ho1 (by simpa [Value.ownBlock] using hne) _
        have HS2 := Lib.hid hset
        have HS1 := Lib.hid ho1s
        have HBs : Hid (Below w3.heap.size w3 (wr.setCell ⟨G2, k, none⟩ (.int .u64 x))) := Lib.hid (hB.setCell hG2b _)
        clear hset ho1s hps ho1 ho2 hB
        go_wp2
        go_roundw
        case rel => exact ⟨k + 1, by omega, by go_num, HS2.out, HS1.out, HBs.out⟩
        case measure => simp [intOf]; omega
      · obtain rfl : N = k := by omega
        rw [part_full] at ho2
        have ho2' : OwnU wr w3.heap.size (.slice (some ⟨G2, 0, none⟩) N N) N (allL N x) := ho2
        obtain ⟨A1, c1, e1, hr1⟩ := ho1.rd
        obtain ⟨A2, c2, e2, hr2⟩ := ho2'.rd
        cases e1
        cases e2
        have hF7 := (HF.out.below hB).mono hB.size
        have HFt := Lib.hid (r13fault_any (some ⟨G1, 0, none⟩) N wr.heap.size q (oneL N K) wr HPM.out.1 HPM.out.2 (by rw [oneL_length]; omega) hr1)
        rw [oneL_length] at HFt
        have hBy := hBx.trans (hB.mono hBx.size)
        clear ho1 ho2 ho2' hlt hBx hB
        by_cases hf : fault13 q (oneL N K) = 0
        · rw [hf] at HFt
          obtain ⟨hck, _, _⟩ := fault13_zero hf
          rw [oneL_length] at hck
          obtain ⟨hdv, hnp⟩ := chk_dvd (p := q) (by have := HPM.out.1; omega) hck
          have HY1 := Lib.hid (fun i (hi : i < N) => row_one (g := g') (k := K) HP.out HO.out hdv hKN hi)
          have HY2 := Lib.hid (fun i (hi : i < N) => row_all (g := g') HP.out HO.out hdv hi x)
          have hcz := (chk_zero hck).2.2
          have hRun1 := r4run_yes HP.out HO.out hg0 hqg.out hF7 (some ⟨G1, 0, none⟩) N (oneL N K) false (oneL_u64 _ _) hr1 hf
          rw [oneL_length] at hRun1
          have HR1 := Lib.hid hRun1
          have HFv := Lib.hid hF7
          have Hr2 := Lib.hid hr2
          have HU2 := Lib.hid (allL_u64 N hx0 hx1)
          have HF2 : Hid (fault13 q (allL N x) = 0) := Lib.hid (fault13_same hf (by rw [oneL_length, allL_length]) (allL_good N HXq.out))
          have HDd : Hid ((decide ((0 : Int) < (N : Int)) && (((q : Int) - 1) % (N : Int) == 0)) = true) := Lib.hid (by simp [hcz]; omega)
          obtain ⟨Y1, hY1⟩ : ∃ Y, Y = lst N (tr (zt q g') N false (rz q (oneL N K))) := ⟨_, rfl⟩
          rw [← hY1] at HY1 HR1
          have HL1 : Hid (Y1.length = N) := Lib.hid (by rw [hY1]; exact lst_length _ _)
          have HU1 : Hid (U64s Y1) := Lib.hid (by rw [hY1]; exact lst_u64 HPM.out.2 _ _)
          clear hf hck hdv hnp hcz hRun1 hF7 hr1 hr2 hY1
          go_wp2_with fail
          refine HFt.out.mono ?_
          rintro r w6 ⟨rfl, rfl⟩
          go_wp2_with fail
          refine HR1.out.mono ?_
          rintro r w7 ⟨V7, rfl, hO7, hB7⟩
          obtain ⟨A7, c7, rfl, hr7⟩ := hO7.rd
          have hRun2 := r4run_yes HP.out HO.out hg0 hqg.out ((HFv.out.below hB7).mono hB7.size) (some ⟨G2, 0, none⟩) N (allL N x) false HU2.out ((Hr2.out.below hB7).mono hB7.size) HF2.out
          rw [allL_length] at hRun2
          obtain ⟨Y2, hY2⟩ : ∃ Y, Y = lst N (tr (zt q g') N false (rz q (allL N x))) := ⟨_, rfl⟩
          rw [← hY2] at HY2 hRun2
          have HL2 : Hid (Y2.length = N) := Lib.hid (by rw [hY2]; exact lst_length _ _)
          have HR2 := Lib.hid hRun2
          have hBz := hBy.trans (hB7.mono hBy.size)
          have HF7 := Lib.hid ((HFv.out.below hB7).mono hB7.size)
          have Hr7 := Lib.hid hr7
          clear hO7 hr7 hRun2 hY2 hBy hB7
          go_wp2_with fail
          refine HR2.out.mono ?_
          rintro r w8 ⟨V8, rfl, hO8, hB8⟩
          obtain ⟨A8, c8, rfl, hr8⟩ := hO8.rd
          have hBa := hBz.trans (hB8.mono hBz.size)
          have HF8 := Lib.hid ((HF7.out.below hB8).mono hB8.size)
          have Hr8 := Lib.hid hr8
          have Hr78 := Lib.hid ((Hr7.out.below hB8).mono hB8.size)
          have HRt := Lib.hid (froot_yes HF8.out (N : Int) (by omega) (by omega) HDd.out hg0 hqg.out)
          obtain ⟨W, hW⟩ : ∃ W, W = g' ^ (((q : Int) - 1) / (N : Int)).toNat % (q : Int) := ⟨_, rfl⟩
          have hWr : 0 ≤ W ∧ W < (q : Int) := by rw [hW]; exact ⟨Int.emod_nonneg _ (by have := HPM.out.1; omega), Int.emod_lt_of_pos _ (by have := HPM.out.1; omega)⟩
          have HWr := Lib.hid hWr
          have HWx : Hid (W ≤ 18446744073709551615) := Lib.hid (le_u64 hWr.2 HPM.out.2)
          rw [← hW] at HRt HY1
          clear hO8 hr8 hBz hB8 hW hWr
          go_wp2_with fail
          refine HRt.out.mono ?_
          rintro r w9 ⟨rfl, n9, hw9⟩
          have HB9 : Hid (Below w8.heap.size w8 w9) := Lib.hid (by rw [hw9]; exact below_drewN (Below.refl _ _) _)
          clear hw9
          have tNN : ((N : Int) != (N : Int)) = false := by simp
          go_wp2
          go_loopw [22, 23, 112] (fun _ _ I wr => ∃ i : Nat, i ≤ N ∧ I = .int .i64 i ∧ Below w8.heap.size w8 wr) (fun _ _ I _ => N - (intOf I).toNat)
          case atStart => exact ⟨0, by omega, rfl, HB9.out⟩
          case round =>
            clear HB9
            obtain ⟨i, hi, rfl, hB⟩ := hrel
            by_cases hlt : i < N
            · have e1 := HY1.out i hlt
              have e2 := HY2.out i hlt
              obtain ⟨ba, oa, rfl, hba, hca⟩ := Hr78.out (by rw [HL1.out]; omega)
              obtain ⟨bb, ob, rfl, hbb, hcb⟩ := Hr8.out (by rw [HL2.out]; omega)
              have d1 := cell_keep hB hba (hca i (by rw [HL1.out]; omega))
              have d2 := cell_keep hB hbb (hcb i (by rw [HL2.out]; omega))
              have hEb : i * K ≤ 255 * 255 := Nat.mul_le_mul (by omega) (by omega)
              have hEi : (i : Int) * (K : Int) = ((i * K : Nat) : Int) := by simp
              obtain ⟨E, hE⟩ : ∃ E, E = i * K := ⟨_, rfl⟩
              rw [← hE] at hEb hEi e1
              obtain ⟨wE, wE', wU, E0, E1⟩ := wrapsE hEb
              have hPw := fun w10 (h : Fd w10 w8.heap.size v q g') n => fpow_fd (h.drewN n) W E HWr.out.1 HWx.out E0 E1
              simp only [Int.toNat_natCast] at hPw
              rw [← e1] at hPw
              obtain ⟨y1, hy1⟩ : ∃ y, y = Y1.getD i 0 := ⟨_, rfl⟩
              obtain ⟨y2, hy2⟩ : ∃ y, y = Y2.getD i 0 := ⟨_, rfl⟩
              rw [← hy1] at d1 hPw
              rw [← hy2] at d2 e2
              have HPw := Lib.hid hPw
              have HFr := Lib.hid (HF8.out.below hB)
              have t11 : (y1 != y1) = false := by simp
              have t22 : (y2 != y2) = false := by simp
              have HBr := Lib.hid hB
              have HE0 : Hid (i = 0 → (E : Int) = 0) := Lib.hid (fun h => by rw [hE, h]; simp)
              clear hPw hy1 hy2 hE hEb e1 hca hcb hB tNN
              by_cases hi0 : i = 0
              · subst hi0
                rw [if_pos rfl] at e2
                have hM := fmul_fd HFr.out x (N : Int) hx0 hx1 (by omega) (by omega)
                rw [← e2] at hM
                have HM := Lib.hid hM
                clear hM e2
                go_wp2_with fail
                refine HM.out.mono ?_
                rintro r w10 ⟨rfl, n3, hw10⟩
                have HB10 : Hid (Below w8.heap.size w8 w10) := Lib.hid (by rw [hw10]; exact below_drewN HBr.out _)
                have g1 : w10.cell? ⟨ba, oa, none⟩ = some (.int .u64 y1) := by rw [hw10]; exact d1
                have g2 : w10.cell? ⟨bb, ob, none⟩ = some (.int .u64 y2) := by rw [hw10]; exact d2
                have hP10 := HPw.out w10 (by rw [hw10]; exact HFr.out.drewN _)
                rw [HE0.out (by first | trivial | rfl)] at hP10
                have HP10 := Lib.hid hP10
                clear hw10 d1 d2 hP10 hEi wE wE' wU E0 E1
                go_wp2_with fail
                go_quiet ((go_at_call 53; exact Calls.quiet_of (HP10.out _)))
                go_wp2
                go_roundw
                case rel => exact ⟨1, by omega, by go_num, below_drewN HB10.out _⟩
                case measure => simp [intOf]; omega
              · have ti : ((i : Int) == 0) = false := by simp; omega
                rw [if_neg hi0] at e2
                subst e2
                have HP10 := Lib.hid (HPw.out wr HFr.out)
                clear hi0
                go_wp2_with fail
                go_quiet ((go_at_call 53; exact Calls.quiet_of (HP10.out _)))
                go_wp2
                go_roundw
                case rel => exact ⟨i + 1, by omega, by go_num, below_drewN HBr.out _⟩
                case measure => simp [intOf]; omega
            · obtain rfl : N = i := by omega
              go_wp2
              go_ret
              exact ⟨by first | rfl | simp, hBa.trans (hB.mono hBa.size)⟩
        · have tf : (fault13 q (oneL N K) != 0) = true := by simp [hf]
          obtain ⟨z, hz⟩ : ∃ z, z = fault13 q (oneL N K) := ⟨_, rfl⟩
          rw [← hz] at tf HFt
          clear hf hz hr1 hr2 hF7
          go_wp2_with fail
          refine HFt.out.mono ?_
          rintro r w6 ⟨rfl, rfl⟩
          go_wp2
          go_ret
          exact ⟨by first | rfl | simp, hBy⟩
end Go.Proofs.YtgdadkkiefkimaaGreat
