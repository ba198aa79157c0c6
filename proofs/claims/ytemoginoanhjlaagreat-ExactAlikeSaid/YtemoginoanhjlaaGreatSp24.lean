/- law 24: split, same. -/
import Derived.Test.YtemoginoanhjlaaGreatEx24A
import Derived.Test.YtemoginoanhjlaaGreatWB01CGarBEqT
import Derived.Test.YtemoginoanhjlaaGreatWExMToExK
set_option linter.unusedVariables false
set_option linter.unusedSimpArgs false
set_option linter.unusedSectionVars false
set_option linter.unusedVariables false
set_option linter.unusedSimpArgs false
namespace Go.Proofs.YtemoginoanhjlaaGreat
open Go.RowKit
open Alg
theorem own_ne_type {w : World} {b1 b2 : Nat} {e1 e2 : TypeId} {s1 s2 n1 n2 : Nat} {v1 v2 : Value} {xs1 xs2 : List Value} (h1 : w.ownsRow b1 e1 s1 v1 n1 xs1) (h2 : w.ownsRow b2 e2 s2 v2 n2 xs2) (hne : e1 ≠ e2) : v1.ownBlock = none ∨ v1.ownBlock ≠ v2.ownBlock := by
  rcases h1.2 with ⟨rfl, _⟩ | ⟨g, cap, cur, rfl, _, hg, _⟩
  · exact .inl rfl
  · refine .inr fun e => ?_
    rcases h2.2 with ⟨rfl, _⟩ | ⟨g', cap', cur', rfl, _, hg', _⟩
    · simp [Value.ownBlock] at e
    · have : g = g' := by simpa [Value.ownBlock] using e
      subst this
      rw [hg] at hg'
      have h3 := Option.some.inj hg'
      exact hne (Obj.cells.inj h3).2.1
/-- The signs of a list. -/
def sgnL (L : List Int) : List Bool := L.map fun x => decide (x < 0)
theorem sgnL_length (L : List Int) : (sgnL L).length = L.length := by simp [sgnL]
theorem sgnL_get {L : List Int} {i : Nat} (h : i < L.length) : (sgnL L).getD i false = decide (L.getD i 0 < 0) := by
  simp [sgnL, List.getD_eq_getElem?_getD, h]
theorem sgd_signs (L : List Int) : Sgd L (sizesL L) (sgnL L) := by
  refine ⟨(sizesL_length L).symm, by rw [sgnL_length, sizesL_length], fun i hi => ?_⟩
  rw [sizesL_length] at hi
  rw [sgnL_get hi, sizesL_get]
  unfold sgI
  generalize L.getD i 0 = x
  by_cases h : x < 0
  · rw [decide_eq_true h, if_pos rfl]; omega
  · rw [decide_eq_false h, if_neg (by decide)]; omega
theorem sgnL_take {L : List Int} {k : Nat} (h : k < L.length) : ((sgnL L).take (k + 1)).map Value.bool = ((sgnL L).take k).map Value.bool ++ [Value.bool (decide (L.getD k 0 < 0))] := by
  rw [List.take_succ_eq_append_getElem (by rw [sgnL_length]; exact h), List.map_append]
  have e : (sgnL L)[k]'(by rw [sgnL_length]; exact h) = decide (L.getD k 0 < 0) := by
    rw [← sgnL_get h, List.getD_eq_getElem?_getD, List.getElem?_eq_getElem (by rw [sgnL_length]; exact h)]; rfl
  rw [e]; rfl
set_option maxHeartbeats 4000000 in
set_option maxRecDepth 100000 in
theorem split24_any (A : Option Addr) (c : Nat) (L : List Int) (w : World) (hl : L.length ≤ 4294967296) (hI : I64s L) (hR : RdI w w.heap.size .i64 A L) :
    Calls Tryz.prog 28 #[.slice A L.length c] w fun e w' => ∃ V Bv, e = .returned (.tuple #[V, Bv]) ∧ OwnU w' w.heap.size V L.length (sizesL L) ∧ w'.ownsRow w.heap.size 4 1 Bv L.length ((sgnL L).map Value.bool) ∧ Below w.heap.size w w' := by
  obtain ⟨i0, hi, hz0, hz1, hz2⟩ := info_parts info_u64
  obtain ⟨ib, hib, hb0, hb1, hb2⟩ := info_parts info_bool
  have HI := Lib.hid hI
  have hsl := sizesL_length L
  have HG := Lib.hid (sizesL_get L)
  have HS := Lib.hid (fun k (hk : k < L.length) => sgnL_take hk)
  have hgl := sgnL_length L
  obtain ⟨M, hM⟩ : ∃ M, M = sizesL L := ⟨_, rfl⟩
  rw [← hM] at hsl HG ⊢
  obtain ⟨S, hS'⟩ : ∃ S, S = sgnL L := ⟨_, rfl⟩
  rw [← hS'] at HS hgl ⊢
  clear hM hI hS'
  go_enter Tryz.func28, Tryz.ntmps28
  go_wp2
  go_loopw [4, 5, 10] (fun O Bo I wr => ∃ (k : Nat) (Ov Bv : Value), Ov = O ∧ Bv = Bo ∧ I = .int .i64 k ∧ k ≤ L.length ∧ OwnU wr w.heap.size Ov k (M.take k) ∧ wr.ownsRow w.heap.size 4 1 Bv k ((S.take k).map Value.bool) ∧ Below w.heap.size w wr) (fun _ _ I _ => L.length - (intOf I).toNat)
  case atStart => exact ⟨0, _, _, rfl, rfl, rfl, by omega, World.ownsRow_nil _ _ _ _, World.ownsRow_nil _ _ _ _, Below.refl _ _⟩
  case round =>
    obtain ⟨k, O, Bq, rfl, rfl, rfl, hk, hown, howb, hB⟩ := hrel
    have hws := hB.size
    by_cases hlt : k < L.length
    · obtain ⟨b, o, rfl, hb, hc⟩ := hR (by omega)
      have c0 := cell_keep hB hb (hc k hlt)
      have hx0 := HI.out (L.getD k 0) (by rw [List.getD_eq_getElem?_getD, List.getElem?_eq_getElem hlt]; exact List.getElem_mem hlt)
      have hxl := HG.out k
      have hsk := HS.out k hlt
      obtain ⟨x, hx⟩ : ∃ x, x = L.getD k 0 := ⟨_, rfl⟩
      rw [← hx] at c0 hx0 hxl hsk
      have hS := Lib.hid (fun wz => r24size_any x hx0.1 hx0.2 wz)
      obtain ⟨y, hy⟩ : ∃ y, y = x.natAbs := ⟨_, rfl⟩
      rw [← hy] at hS hxl
      obtain ⟨t, ht⟩ : ∃ t, t = decide (x < 0) := ⟨_, rfl⟩
      have t' : decide (x < 0) = t := ht.symm
      rw [← ht] at hsk
      have HX := Lib.hid hxl
      have HK := Lib.hid hsk
      have HO1 := Lib.hid hown
      have HB1 := Lib.hid howb
      clear hx hc hy hxl hsk ht hown howb
      go_wp2_with fail
      refine (hS.out _).mono ?_
      rintro r w7 ⟨rfl, rfl⟩
      go_wp2_with (at_builtin; refine wpList_append_own _ rfl _ _ 64 rfl w.heap.size 22 i0 (.int .u64 0) 1 8 Tryz.underlying64 hi hz0 hz1 hz2 rfl (by decide) _ _ _ rfl (World.ownsRow.alloc HO1.out _) ⟨wr.heap.size, 0, none⟩ 1 1 [.int .u64 (y : Int)] rfl rfl ?c1 ?c2 ?c3 ?c4 ?c5 ?_)
      case c1 =>
        intro j u hj
        match j, hj with
        | 0, hj => simp at hj; subst hj; simp [Addr.add]
      case c2 => intro u hu; simp at hu; subst hu; rfl
      case c3 => unfold maxLen; omega
      case c4 => omega
      case c5 => simp; omega
      intro v' w6 hown' hgrow _
      have hO : OwnU w6 w.heap.size v' (k + 1) (M.take (k + 1)) := by
        unfold OwnU
        rw [ints_snocU _ _ (by omega), HX.out]
        exact hown'
      have hb6 : w6.ownsRow w.heap.size 4 1 Bq k ((S.take k).map Value.bool) := (World.ownsRow.alloc HB1.out _).kept hgrow (own_ne_type (HB1.out) (HO1.out) (by decide))
      have hB6 := (hB.alloc hws (.cells #[.int .u64 (y : Int)] 22)).grown hgrow (by simp; omega) (fun k hk => (World.ownsRow.lt HO1.out k hk).1)
      have hs6 := hB6.size
      have HO2 := Lib.hid hO
      have HB2 := Lib.hid hb6
      clear hgrow hown' hO hb6 c0 HO1 HB1
      go_wp2_with (at_builtin; refine wpList_append_own _ rfl _ _ 65 rfl w.heap.size 4 ib (.bool false) 1 1 Tryz.underlying65 hib hb0 hb1 hb2 rfl (by decide) _ _ _ rfl (World.ownsRow.alloc HB2.out _) ⟨w6.heap.size, 0, none⟩ 1 1 [.bool t] rfl rfl ?d1 ?d2 ?d3 ?d4 ?d5 ?_)
      case d1 =>
        intro j u hj
        match j, hj with
        | 0, hj => simp at hj; subst hj; simp [Addr.add]
      case d2 => intro u hu; simp at hu; subst hu; rfl
      case d3 => unfold maxLen; omega
      case d4 => omega
      case d5 => simp; omega
      intro v8 w8 hown8 hgrow8 _
      have hO8 : OwnU w8 w.heap.size v' (k + 1) (M.take (k + 1)) := (World.ownsRow.alloc HO2.out _).kept hgrow8 (own_ne_type (HO2.out) (HB2.out) (by decide))
      have hB8 := (hB6.alloc hs6 (.cells #[.bool t] 4)).grown hgrow8 (by simp; omega) (fun k hk => (World.ownsRow.lt HB2.out k hk).1)
      rw [← List.map_take, ← HK.out] at hown8
      have HO3 := Lib.hid hO8
      have HB3 := Lib.hid hown8
      clear hgrow8 hown8 hO8 HO2 HB2
      go_wp2
      go_roundw
      case rel => exact ⟨k + 1, _, _, rfl, rfl, by go_num, by omega, HO3.out, HB3.out, hB8⟩
      case measure => simp [intOf]; omega
    · obtain rfl : k = L.length := by omega
      have he : M.take L.length = M := List.take_of_length_le (by omega)
      have he' : S.take L.length = S := List.take_of_length_le (by omega)
      rw [he] at hown
      rw [he'] at howb
      have HO := Lib.hid (And.intro hown howb)
      clear he he' hown howb
      go_wp2
      go_ret2
      exact ⟨_, _, rfl, HO.out.1, HO.out.2, hB⟩
set_option maxHeartbeats 4000000 in
set_option maxRecDepth 100000 in
theorem same24_any (G H n : Nat) (X : Nat → Nat) (w : World) (hn : n ≤ 4096) (hX : ∀ k, X k < 6277101735386680763835789423207666416102355444464034512896) (h1 : R3 w G n X) (h2 : R3 w H n X) :
    Calls Tryz.prog 36 #[.slice (some ⟨G, 0, none⟩) n n, .slice (some ⟨H, 0, none⟩) n n] w fun e w' => e = .returned (.bool true) ∧ ∃ q, w' = w.drewN q := by
  have H1 := Lib.hid h1
  have H2 := Lib.hid h2
  have HX := Lib.hid hX
  have t0 : ((n : Int) != n) = false := by simp
  clear h1 h2 hX
  go_enter Tryz.func36, Tryz.ntmps36
  go_wp2
  go_loopw [13] (fun I wr => ∃ k q : Nat, I = .int .i64 k ∧ k ≤ n ∧ wr = w.drewN q) (fun I _ => n - (intOf I).toNat)
  case atStart => exact ⟨0, 0, rfl, by omega, rfl⟩
  case round =>
    obtain ⟨k, q, rfl, hk, rfl⟩ := hrel
    by_cases hlt : k < n
    · have f0 : (0 : Int) ≤ (k : Int) := by omega
      have f1 : (k : Int) < (n : Int) := by omega
      have ee : ∀ W, (Op.equalIn 10000 69 (.agg (tl (X k)).toArray) (.agg (tl (X k)).toArray)).run Tryz.prog W = .ok true W := fun W => by rw [tl_list, eqn_three _ _ (HX.out k) (HX.out k)]; simp
      have HSl : Hid ((w.drewN (q + 1)).rangeAt G (k * 3) (tl (X k)) ∧ (w.drewN (q + 1)).rangeAt H (k * 3) (tl (X k))) := Lib.hid ⟨H1.out.range k hlt, H2.out.range k hlt⟩
      obtain ⟨x, hx⟩ : ∃ x, x = X k := ⟨_, rfl⟩
      rw [← hx] at ee HSl
      clear hx
      go_wp2_with fail
      change (Code.region _ _ true).wp _ _ _ _
      refine wp_region_held_drew (S := fun wz => wz.rangeAt G (k * 3) (tl x) ∧ wz.rangeAt H (k * 3) (tl x)) (by kernel_rfl) (HSl.out) (fun hHeld => ?_)
      refine wpAnyH_take (i := 0) (v := ?_) rfl (by kernel_rfl) (by kernel_rfl) (by kernel_rfl) (fun _ _ _ h => h) (Or.inl ⟨by rfl, ?_⟩) HSl.out ?_
      rotate_left
      · intro w hSw; (try dsimp only at hSw); go_simp; try with_reducible rfl
      try simp only [Act.put, List.getElem_toArray, List.getElem_cons_zero, List.getElem_cons_succ, List.setIfInBounds_toArray, List.set_cons_zero, List.set_cons_succ]
      refine wpAnyH_take (i := 1) (v := ?_) rfl (by kernel_rfl) (by kernel_rfl) (by kernel_rfl) (fun _ _ _ h => h) (Or.inl ⟨by rfl, ?_⟩) HSl.out ?_
      rotate_left
      · intro w hSw; (try dsimp only at hSw); go_simp; try with_reducible rfl
      try simp only [Act.put, List.getElem_toArray, List.getElem_cons_zero, List.getElem_cons_succ, List.setIfInBounds_toArray, List.set_cons_zero, List.set_cons_succ]
      refine wpAnyH_take (i := 2) (v := ?_) rfl (by kernel_rfl) (by kernel_rfl) (by kernel_rfl) (fun _ _ _ h => h) (Or.inl ⟨by rfl, ?_⟩) HSl.out ?_
      rotate_left
      · intro w hSw; (try dsimp only at hSw); go_simp; try with_reducible rfl
      try simp only [Act.put, List.getElem_toArray, List.getElem_cons_zero, List.getElem_cons_succ, List.setIfInBounds_toArray, List.set_cons_zero, List.set_cons_succ]
      refine wpAnyH_take (i := 3) rfl (by kernel_rfl) (by kernel_rfl) (by kernel_rfl) (fun _ _ _ h => h) (yieldsIf_load_mid (by rfl) _ _ rfl _ _ rfl _ _ (fun wz h => h.1) Tryz.underlying69 rfl (by exact size_three)) HSl.out ?_
      try simp only [Act.put, List.getElem_toArray, List.getElem_cons_zero, List.getElem_cons_succ, List.setIfInBounds_toArray, List.set_cons_zero, List.set_cons_succ]
      refine wpAnyH_take (i := 4) (v := ?_) rfl (by kernel_rfl) (by kernel_rfl) (by kernel_rfl) (fun _ _ _ h => h) (Or.inl ⟨by rfl, ?_⟩) HSl.out ?_
      rotate_left
      · intro w hSw; (try dsimp only at hSw); go_simp; try with_reducible rfl
      try simp only [Act.put, List.getElem_toArray, List.getElem_cons_zero, List.getElem_cons_succ, List.setIfInBounds_toArray, List.set_cons_zero, List.set_cons_succ]
      refine wpAnyH_take (i := 5) (v := ?_) rfl (by kernel_rfl) (by kernel_rfl) (by kernel_rfl) (fun _ _ _ h => h) (Or.inl ⟨by rfl, ?_⟩) HSl.out ?_
      rotate_left
      · intro w hSw; (try dsimp only at hSw); go_simp; try with_reducible rfl
      try simp only [Act.put, List.getElem_toArray, List.getElem_cons_zero, List.getElem_cons_succ, List.setIfInBounds_toArray, List.set_cons_zero, List.set_cons_succ]
      refine wpAnyH_take (i := 6) (v := ?_) rfl (by kernel_rfl) (by kernel_rfl) (by kernel_rfl) (fun _ _ _ h => h) (Or.inl ⟨by rfl, ?_⟩) HSl.out ?_
      rotate_left
      · intro w hSw; (try dsimp only at hSw); go_simp; try with_reducible rfl
      try simp only [Act.put, List.getElem_toArray, List.getElem_cons_zero, List.getElem_cons_succ, List.setIfInBounds_toArray, List.set_cons_zero, List.set_cons_succ]
      refine wpAnyH_take (i := 7) rfl (by kernel_rfl) (by kernel_rfl) (by kernel_rfl) (fun _ _ _ h => h) (yieldsIf_load_mid (by rfl) _ _ rfl _ _ rfl _ _ (fun wz h => h.2) Tryz.underlying69 rfl (by exact size_three)) HSl.out ?_
      try simp only [Act.put, List.getElem_toArray, List.getElem_cons_zero, List.getElem_cons_succ, List.setIfInBounds_toArray, List.set_cons_zero, List.set_cons_succ]
      refine wpAnyH_take (i := 8) (v := ?_) rfl (by kernel_rfl) (by kernel_rfl) (by kernel_rfl) (fun _ _ _ h => h) (Or.inl ⟨by rfl, ?_⟩) HSl.out ?_
      rotate_left
      · intro w hSw; (try dsimp only at hSw); go_simp; try with_reducible rfl
      try simp only [Act.put, List.getElem_toArray, List.getElem_cons_zero, List.getElem_cons_succ, List.setIfInBounds_toArray, List.set_cons_zero, List.set_cons_succ]
      refine wpAnyH_done (by kernel_rfl) ?_ _
      go_wp2
      go_roundw
      case rel => exact ⟨k + 1, _, by go_num, by omega, rfl⟩
      case measure => simp [intOf]; omega
    · obtain rfl : k = n := by omega
      go_wp2
      go_ret
      exact ⟨rfl, _, rfl⟩
end Go.Proofs.YtemoginoanhjlaaGreat
