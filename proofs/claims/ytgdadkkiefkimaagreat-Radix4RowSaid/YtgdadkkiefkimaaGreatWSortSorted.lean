/- slices.Sort at few uint64s: insertion. -/
import Derived.Test.YtgdadkkiefkimaaGreatSeq
set_option linter.unusedVariables false
set_option linter.unusedSimpArgs false
set_option linter.unusedSectionVars false
section
/- slices.Sort at few uint64s: insertion. -/
namespace Go.Proofs.YtgdadkkiefkimaaGreat
open Go.RowKit

theorem nan_any (x : Int) (w : World) : Calls Tryz.prog 203 #[.int .u64 x] w fun e w' => e = .returned (.bool false) ∧ ∃ n, w' = w.drewN n := by
  go_enter Tryz.func203, Tryz.ntmps203
  go_wp2
  go_ret
  exact ⟨by simp, 0, rfl⟩
theorem less_any (x y : Int) (w : World) : Calls Tryz.prog 193 #[.int .u64 x, .int .u64 y] w fun e w' => e = .returned (.bool (decide (x < y))) ∧ ∃ n, w' = w.drewN n := by
  go_enter Tryz.func193, Tryz.ntmps193
  go_wp2
  go_ret
  exact ⟨rfl, 0, rfl⟩

/-- A row of cells. -/
structure RowF (w : World) (g n : Nat) (F : Nat → Int) : Prop where
  cell : ∀ j, j < n → w.cell? ⟨g, j, none⟩ = some (.int .u64 (F j))
  thaw : ∀ j, w.frozen? ⟨g, j, none⟩ = false

theorem But.setCell (g o : Nat) (w : World) (v : Value) : But g w (w.setCell ⟨g, o, none⟩ v) :=
  ⟨rfl, rfl, rfl, (KeepsWalks.setCell w _ v).size, fun k _ hne => Below.heap_setCell w ⟨g, o, none⟩ v k hne⟩
theorem But.drewN {g : Nat} {w w' : World} (h : But g w w') (n : Nat) : But g w (w'.drewN n) := h.trans (But.of_below (below_drewN (Below.refl _ _) n))
def swpF (F : Nat → Int) (a b : Nat) : Nat → Int := fun t => if t = a then F b else if t = b then F a else F t
theorem swpF_perm (F : Nat → Int) {a b n : Nat} (ha : a < n) (hb : b < n) : ((List.range n).map (swpF F a b)).Perm ((List.range n).map F) := by
  have h1 : (List.range n).map (swpF F a b) = ((List.range n).map (fun t => if t = a then b else if t = b then a else t)).map F := by
    rw [List.map_map]
    apply List.map_congr_left
    intro t _
    simp only [swpF, Function.comp]
    split
    · rfl
    · split <;> rfl
  rw [h1]
  refine List.Perm.map F (Alg.perm_of_mem ?_ List.nodup_range (fun x => ?_))
  · refine List.Pairwise.map (R := fun x y : Nat => x ≠ y) _ (fun x y h e => h ?_) List.nodup_range
    split at e <;> split at e <;> (try split at e) <;> (try split at e) <;> omega
  · simp only [List.mem_map, List.mem_range]
    constructor
    · rintro ⟨t, ht, rfl⟩
      split
      · exact hb
      · split <;> omega
    · intro hx
      refine ⟨if x = a then b else if x = b then a else x, ?_, ?_⟩
      · split
        · exact hb
        · split <;> omega
      · split <;> (try split) <;> (try split) <;> (try split) <;> omega
theorem RowF.swap {w : World} {g n : Nat} {F : Nat → Int} (h : RowF w g n F) {a b : Nat} (ha : a < n) (hb : b < n) (hab : a ≠ b) : RowF ((w.setCell ⟨g, a, none⟩ (.int .u64 (F b))).setCell ⟨g, b, none⟩ (.int .u64 (F a))) g n (swpF F a b) := by
  have c1 : ∀ j, j < n → (w.setCell ⟨g, a, none⟩ (.int .u64 (F b))).cell? ⟨g, j, none⟩ = some (.int .u64 (if j = a then F b else F j)) := fun j hj => by
    by_cases e : j = a
    · subst e; rw [World.cell?_setCell_same _ _ _ (h.cell j hj)]; simp
    · rw [World.cell?_setCell_other _ _ _ _ (fun h => e (by injection h with _ h2 _; exact h2.symm)), h.cell j hj, if_neg e]
  refine ⟨fun j hj => ?_, fun j => by have := h.thaw j; simpa using this⟩
  by_cases e : j = b
  · subst e; rw [World.cell?_setCell_same _ _ _ (c1 j hj)]; unfold swpF; rw [if_neg (fun h => hab h.symm), if_pos rfl]
  · rw [World.cell?_setCell_other _ _ _ _ (fun h => e (by injection h with _ h2 _; exact h2.symm)), c1 j hj]
    unfold swpF
    by_cases e2 : j = a
    · rw [if_pos e2, if_pos e2]
    · rw [if_neg e2, if_neg e2, if_neg e]
theorem RowF.drewN {w : World} {g n : Nat} {F : Nat → Int} (h : RowF w g n F) (m : Nat) : RowF (w.drewN m) g n F := ⟨fun j hj => h.cell j hj, fun j => h.thaw j⟩

/-- While the j-th is on its way down. -/
structure InsJ (xs : List Int) (n i j : Nat) (F : Nat → Int) : Prop where
  perm : ((List.range n).map F).Perm xs
  rest : ∀ a b, a < b → b ≤ i → a ≠ j → b ≠ j → F a ≤ F b
  up : ∀ b, j < b → b ≤ i → F j ≤ F b
structure InsI (xs : List Int) (n i : Nat) (F : Nat → Int) : Prop where
  perm : ((List.range n).map F).Perm xs
  rise : ∀ a b, a < b → b < i → F a ≤ F b
theorem InsI.go {xs : List Int} {n i : Nat} {F : Nat → Int} (h : InsI xs n i F) : InsJ xs n i i F := ⟨h.perm, fun a b hab hb _ hn => h.rise a b hab (by omega), fun b h1 h2 => by omega⟩
theorem InsJ.stop {xs : List Int} {n i j : Nat} {F : Nat → Int} (h : InsJ xs n i j F) (hji : j ≤ i) (hs : j = 0 ∨ ¬ F j < F (j - 1)) : InsI xs n (i + 1) F := by
  refine ⟨h.perm, fun a b hab hb => ?_⟩
  by_cases ha : a = j
  · subst ha; exact h.up b hab (by omega)
  · by_cases hbj : b = j
    · subst hbj
      rcases hs with h0 | h0
      · omega
      · by_cases e : a = b - 1
        · subst e; omega
        · have := h.rest a (b - 1) (by omega) (by omega) ha (by omega); omega
    · exact h.rest a b hab (by omega) ha hbj
theorem InsJ.step {xs : List Int} {n i j : Nat} {F : Nat → Int} (h : InsJ xs n i j F) (hin : i < n) (hji : j ≤ i) (hj : 0 < j) (hl : F j < F (j - 1)) : InsJ xs n i (j - 1) (swpF F j (j - 1)) := by
  refine ⟨(swpF_perm F (by omega) (by omega)).trans h.perm, fun a b hab hb ha hbj => ?_, fun b h1 h2 => ?_⟩
  · unfold swpF
    rw [if_neg ha, if_neg hbj]
    by_cases e1 : a = j
    · rw [if_pos e1, if_neg (by omega)]
      exact h.rest (j - 1) b (by omega) hb (by omega) (by omega)
    · rw [if_neg e1]
      by_cases e2 : b = j
      · rw [if_pos e2]; exact h.rest a (j - 1) (by omega) (by omega) e1 (by omega)
      · rw [if_neg e2]; exact h.rest a b hab hb e1 e2
  · unfold swpF
    rw [if_neg (show ¬ j - 1 = j by omega), if_pos rfl, if_neg (show ¬ b = j - 1 by omega)]
    split
    · omega
    · have := h.up b (by omega) h2; omega

set_option maxHeartbeats 2000000 in
set_option maxRecDepth 100000 in
theorem insert_any (g n c : Nat) (F0 : Nat → Int) (w : World) (hn : n ≤ 12) (h : RowF w g n F0) :
    Calls Tryz.prog 187 #[.slice (some ⟨g, 0, none⟩) n c, .int .i64 0, .int .i64 n] w fun e w' => e = .returned (.tuple #[]) ∧ ∃ F, RowF w' g n F ∧ InsI ((List.range n).map F0) n n F ∧ But g w w' := by
  have HI0 : Hid (InsI ((List.range n).map F0) n 1 F0) := Lib.hid ⟨List.Perm.refl _, fun a b h1 h2 => by omega⟩
  obtain ⟨xs, hxs⟩ : ∃ xs, xs = (List.range n).map F0 := ⟨_, rfl⟩
  rw [← hxs] at HI0 ⊢
  have HF0 := Lib.hid h
  clear h hxs
  go_enter Tryz.func187, Tryz.ntmps187
  go_wp2
  go_loopw [6] (fun I wr => ∃ (i : Nat) (F : Nat → Int), I = .int .i64 i ∧ 1 ≤ i ∧ i ≤ 13 ∧ (n ≤ i → i = n ∨ (i = 1 ∧ n = 0)) ∧ RowF wr g n F ∧ InsI xs n i F ∧ But g w wr) (fun I _ => 13 - (intOf I).toNat)
  case atStart => exact ⟨1, F0, rfl, by omega, by omega, by omega, HF0.out, HI0.out, But.refl _ _⟩
  case round =>
    obtain ⟨i, F, rfl, hi1, hi, hni, hF, hI, hB⟩ := hrel
    have HF := Lib.hid hF
    have HI := Lib.hid hI
    have HN := Lib.hid hni
    clear hF hI hni
    by_cases hlt : i < n
    · go_wp2
      go_loopw [7] (fun J w2 => ∃ (j : Nat) (F : Nat → Int), J = .int .i64 j ∧ j ≤ i ∧ RowF w2 g n F ∧ InsJ xs n i j F ∧ But g w w2) (fun J _ => (intOf J).toNat)
      case atStart => exact ⟨i, F, rfl, Nat.le_refl _, HF.out, HI.out.go, hB⟩
      case round =>
        clear HF HI hB
        obtain ⟨j, F, rfl, hji, hF, hJ, hB⟩ := hrel
        have HF := Lib.hid hF
        have HJ := Lib.hid hJ
        have hcw := hF.cell
        have hfw := hF.thaw
        clear hF hJ
        by_cases hj0 : 0 < j
        · obtain ⟨k, rfl⟩ : ∃ k, j = k + 1 := ⟨j - 1, by omega⟩
          have c1 := hcw (k + 1) (by omega)
          have c0 := hcw k (by omega)
          have f1 := hfw (k + 1)
          have f0 := hfw k
          obtain ⟨x, hx⟩ : ∃ x, x = F (k + 1) := ⟨_, rfl⟩
          obtain ⟨y, hy⟩ : ∃ y, y = F k := ⟨_, rfl⟩
          rw [← hx] at c1
          rw [← hy] at c0
          have HX := Lib.hid hx
          have HY := Lib.hid hy
          have ek : ((k + 1 : Nat) : Int) - 1 = k := by omega
          have tk : decide ((0 : Int) < ((k + 1 : Nat) : Int)) = true := by simp <;> omega
          have tk2 : decide (0 < k + 1) = true := by simp
          clear hcw hfw hx hy
          go_wp2
          by_cases hl : x < y
          · have tl : decide (x < y) = true := by simp [hl]
            go_quiet ((go_at_call 193; exact Calls.quiet_of (less_any _ _ _)))
            have g1 : (wr.drewN nq).cell? ⟨g, k + 1, none⟩ = some (.int .u64 x) := c1
            have g0 : (wr.drewN nq).cell? ⟨g, k, none⟩ = some (.int .u64 y) := c0
            have h1 : (wr.drewN nq).frozen? ⟨g, k + 1, none⟩ = false := f1
            have h0 : (wr.drewN nq).frozen? ⟨g, k, none⟩ = false := f0
            have b1 : k < n := by omega
            have b2 : k + 1 < n := by omega
            have b3 : decide ((k : Int) < (n : Int)) = true := by simp; omega
            have b4 : decide (((k + 1 : Nat) : Int) < (n : Int)) = true := by simp; omega
            go_wp2
            go_region
            all_goals go_wp2
            have hR : Hid (RowF (((wr.drewN (nq + 1)).setCell ⟨g, k + 1, none⟩ (.int .u64 y)).setCell ⟨g, k, none⟩ (.int .u64 x)) g n (swpF F (k + 1) k)) := Lib.hid (by
              have := (HF.out.drewN (nq + 1)).swap (a := k + 1) (b := k) b2 b1 (by omega)
              rw [← HX.out, ← HY.out] at this
              exact this)
            have hBB := ((hB.drewN (nq + 1)).trans (But.setCell g (k + 1) _ (.int .u64 y))).trans (But.setCell g k _ (.int .u64 x))
            exact ⟨⟨k, swpF F (k + 1) k, rfl, by omega, hR.out, HJ.out.step hlt hji hj0 (by have := HX.out; have := HY.out; simp only [Nat.add_sub_cancel]; omega), hBB⟩, by simp [intOf]⟩
          · have tl : decide (x < y) = false := by simp [hl]
            go_quiet ((go_at_call 193; exact Calls.quiet_of (less_any _ _ _)))
            have HS : Hid (InsI xs n (i + 1) F) := Lib.hid (HJ.out.stop hji (.inr (by have := HX.out; have := HY.out; simp only [Nat.add_sub_cancel]; omega)))
            go_wp2
            go_roundw
            case rel => exact ⟨i + 1, F, by go_num, by omega, by omega, by omega, HF.out.drewN _, HS.out, hB.drewN _⟩
            case measure => simp [intOf]; omega
        · obtain rfl : j = 0 := by omega
          have HS : Hid (InsI xs n (i + 1) F) := Lib.hid (HJ.out.stop hji (.inl rfl))
          have tk : decide ((0 : Int) < ((0 : Nat) : Int)) = false := by simp
          clear hcw hfw
          go_wp2
          go_quiet (fail)
          go_wp2
          go_roundw
          case rel => exact ⟨i + 1, F, by go_num, by omega, by omega, by omega, HF.out.drewN _, HS.out, hB.drewN _⟩
          case measure => simp [intOf]; omega
    · have HE : Hid (InsI xs n n F) := Lib.hid (by
        rcases HN.out (by omega) with e | ⟨e1, e2⟩
        · have := HI.out; rw [e] at this; exact this
        · exact ⟨HI.out.perm, fun a b h1 h2 => by omega⟩)
      go_wp2
      go_end0
      exact ⟨rfl, F, HF.out, HE.out, hB⟩
end Go.Proofs.YtgdadkkiefkimaaGreat
end

section
/- slices.Sort, Sorted at few uint64s. -/
namespace Go.Proofs.YtgdadkkiefkimaaGreat
open Go.RowKit

set_option maxHeartbeats 2000000 in
set_option maxRecDepth 100000 in
theorem pdq_any (g n c : Nat) (l : Int) (F0 : Nat → Int) (w : World) (hn : n ≤ 12) (h : RowF w g n F0) :
    Calls Tryz.prog 181 #[.slice (some ⟨g, 0, none⟩) n c, .int .i64 0, .int .i64 n, .int .i64 l] w fun e w' => e = .returned (.tuple #[]) ∧ ∃ F, RowF w' g n F ∧ InsI ((List.range n).map F0) n n F ∧ But g w w' := by
  have t1 : decide ((n : Int) ≤ 12) = true := by simp; omega
  go_enter Tryz.func181, Tryz.ntmps181
  go_wp2
  refine wp_loop_rounds 1 ?_
  rw [rounds_succ]
  go_wp2_with fail
  refine (insert_any g n c F0 w hn h).mono ?_
  rintro e w1 ⟨rfl, F, h1, h2, h3⟩
  go_wp2
  refine bodyPost_ret (results_none rfl _ _ _) rfl ?_
  exact ⟨rfl, F, h1, h2, h3⟩

set_option maxRecDepth 100000 in
theorem blen_any (x : Int) (w : World) (h0 : 0 ≤ x) (h1 : x ≤ 18446744073709551615) :
    Calls Tryz.prog 154 #[.int .u64 x] w fun e w' => e = .returned (.int .i64 (Lib.bitLen x.toNat)) ∧ w = w' := by
  have h := len64_any x w h0 h1
  generalize hl : (Lib.bitLen x.toNat : Int) = l at h ⊢
  clear hl
  go_enter Tryz.func154, Tryz.ntmps154
  go_wp2_with fail
  refine h.mono ?_
  rintro e w1 ⟨rfl, rfl⟩
  go_wp2
  go_ret
  exact ⟨rfl, rfl⟩

set_option maxRecDepth 100000 in
theorem sort_any (g n c : Nat) (F0 : Nat → Int) (w : World) (hn : n ≤ 12) (h : RowF w g n F0) :
    Calls Tryz.prog 166 #[.slice (some ⟨g, 0, none⟩) n c] w fun e w' => e = .returned (.tuple #[]) ∧ ∃ F, RowF w' g n F ∧ InsI ((List.range n).map F0) n n F ∧ But g w w' := by
  have hb := blen_any (n : Int) w (by omega) (by omega)
  generalize hl : (Lib.bitLen (n : Int).toNat : Int) = l at hb
  clear hl
  have H := Lib.hid h
  clear h
  go_enter Tryz.func166, Tryz.ntmps166
  go_wp2_with fail
  refine hb.mono ?_
  rintro e w1 ⟨rfl, rfl⟩
  go_wp2_with fail
  refine (pdq_any g n c l F0 w hn H.out).mono ?_
  rintro e w1 ⟨rfl, F, h1, h2, h3⟩
  go_wp2
  go_end0
  exact ⟨rfl, F, h1, h2, h3⟩

theorem maps_keys (bm : Nat) (w : World) :
    Calls Tryz.prog 144 #[.map (some bm)] w fun e w' => e = .returned (.func (.func 167) #[] #[.pointer (some ⟨w.heap.size, 0, none⟩)]) ∧ w' = w.alloc (.cells #[.map (some bm)] 183) := by
  go_enter Tryz.func144, Tryz.ntmps144
  go_wp2
  go_ret
  exact ⟨rfl, rfl⟩

theorem keys_gives (n bm Bm : Nat) (hn : 1 ≤ n) (es : List Ent) (w : World) (hm : w.cell? ⟨Bm, 0, none⟩ = some (.map (some bm))) (hM : MapE w bm es) :
    SeqGives Fence.wide n Tryz.prog 167 #[.pointer (some ⟨Bm, 0, none⟩)] encU (fun ss => ss.Perm (es.map (·.p))) es.length w := fun l J W hW hJ hY h0 =>
  keys1_any n l Bm bm hn es J W hJ (cell_keep hW (World.block_lt_of_cell? w _ hm) hm) (hM.below hW) hY h0

theorem collected (bm Bm : Nat) (es : List Ent) (w : World) (hm : w.cell? ⟨Bm, 0, none⟩ = some (.map (some bm))) (hM : MapE w bm es) (hl : es.length ≤ 12) :
    Calls Tryz.prog 165 #[.func (.func 167) #[] #[.pointer (some ⟨Bm, 0, none⟩)]] w fun e w' => ∃ (v : Value) (ss : List Int), e = .returned v ∧ ss.Perm (es.map (·.p)) ∧ w'.ownsRow w.heap.size 22 1 v ss.length (ss.map encU) ∧ (v = .slice none 0 0 ↔ ss = []) ∧ Below w.heap.size w w' :=
  callsIn_wide.1 (collect_any 4 (by omega) _ _ (enters_of Tryz.func167 (by kernel_rfl) rfl) _ es.length (by omega) w (keys_gives 2 bm Bm (by omega) es w hm hM))

set_option maxRecDepth 100000 in
theorem sorted_any (bm Bm : Nat) (es : List Ent) (w : World) (hm : w.cell? ⟨Bm, 0, none⟩ = some (.map (some bm))) (hM : MapE w bm es) (hl : es.length ≤ 12) (hl0 : 0 < es.length) :
    Calls Tryz.prog 143 #[.func (.func 167) #[] #[.pointer (some ⟨Bm, 0, none⟩)]] w fun e w' =>
      ∃ g c F, e = .returned (.slice (some ⟨g, 0, none⟩) es.length c) ∧ RowF w' g es.length F ∧ InsI (es.map (·.p)) es.length es.length F ∧ Below w.heap.size w w' ∧ w.heap.size ≤ g := by
  have hc := collected bm Bm es w hm hM hl
  go_enter Tryz.func143, Tryz.ntmps143
  go_wp2_with fail
  refine hc.mono ?_
  rintro e w1 ⟨v, ss, rfl, hS, hown, hnil, hB⟩
  have hsl : ss.length = es.length := by rw [hS.length_eq]; simp
  rcases hown.2 with ⟨rfl, hz⟩ | ⟨g, cap, cur, rfl, hbase, hgb, r1, r2, r3, r4⟩
  · omega
  · have hR : RowF w1 g es.length (fun j => ss.getD j 0) := by
      refine ⟨fun j hj => ?_, fun j => by simp [World.frozen?, hgb]⟩
      have h1 : cur[j]? = some (encU (ss.getD j 0)) := by
        have h2 : (cur.toList.take ss.length)[j]? = (ss.map encU)[j]? := by rw [← r4, Nat.mul_one]
        have hj' : j < ss.length := by omega
        rw [List.getElem?_take_of_lt hj', List.getElem?_map, List.getElem?_eq_getElem hj'] at h2
        rw [← Array.getElem?_toList, h2, List.getD_eq_getElem?_getD, List.getElem?_eq_getElem hj']
        rfl
      simp only [World.cell?, hgb]
      simpa [encU] using h1
    have hmap : (List.range es.length).map (fun j => ss.getD j 0) = ss := by
      rw [← hsl]
      apply List.ext_getElem
      · simp
      · intro j h1 h2
        simp [List.getD_eq_getElem?_getD, List.getElem?_eq_getElem h2]
    rw [hsl]
    have H := Lib.hid hR
    have HM := Lib.hid hmap
    have HS := Lib.hid hS
    clear hR hmap hown r1 r2 r3 r4 hgb hnil hS hc hm hM
    go_wp2_with fail
    refine (sort_any g es.length cap _ w1 hl H.out).mono ?_
    rintro e w2 ⟨rfl, F, h1, h2, h3⟩
    go_wp2
    go_ret
    refine ⟨g, cap, F, rfl, h1, ⟨(h2.perm.trans (by rw [HM.out]; exact HS.out)), h2.rise⟩, hB.trans (h3.below hB.size hbase), hbase⟩
end Go.Proofs.YtgdadkkiefkimaaGreat
end
