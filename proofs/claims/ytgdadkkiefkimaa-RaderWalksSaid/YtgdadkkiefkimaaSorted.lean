/- slices.Sort, Sorted at few uint64s. -/
import Derived.Test.YtgdadkkiefkimaaSort
namespace Go.Proofs.Ytgdadkkiefkimaa
open Go.RowKit

set_option maxHeartbeats 2000000 in
set_option maxRecDepth 100000 in
theorem pdq_any (g n c : Nat) (l : Int) (F0 : Nat → Int) (w : World) (hn : n ≤ 12) (h : RowF w g n F0) :
    Calls Try.prog 62 #[.slice (some ⟨g, 0, none⟩) n c, .int .i64 0, .int .i64 n, .int .i64 l] w fun e w' => e = .returned (.tuple #[]) ∧ ∃ F, RowF w' g n F ∧ InsI ((List.range n).map F0) n n F ∧ But g w w' := by
  have t1 : decide ((n : Int) ≤ 12) = true := by simp; omega
  go_enter Try.func62, Try.ntmps62
  go_wp2
  refine wp_loop_rounds 1 ?_
  rw [rounds_succ]
  go_wp2_with fail
  refine (insert_any g n c F0 w hn h).mono ?_
  rintro e w1 ⟨rfl, F, h1, h2, h3⟩
  go_wp2
  refine bodyPost_ret (results_none rfl _ _ _) rfl ?_
  exact ⟨rfl, F, h1, h2, h3⟩

set_option maxRecDepth 100000 in
theorem blen_any (x : Int) (w : World) (h0 : 0 ≤ x) (h1 : x ≤ 18446744073709551615) :
    Calls Try.prog 63 #[.int .u64 x] w fun e w' => e = .returned (.int .i64 (Lib.bitLen x.toNat)) ∧ w = w' := by
  have h := len64_any x w h0 h1
  generalize hl : (Lib.bitLen x.toNat : Int) = l at h ⊢
  clear hl
  go_enter Try.func63, Try.ntmps63
  go_wp2_with fail
  refine h.mono ?_
  rintro e w1 ⟨rfl, rfl⟩
  go_wp2
  go_ret
  exact ⟨rfl, rfl⟩

set_option maxRecDepth 100000 in
theorem sort_any (g n c : Nat) (F0 : Nat → Int) (w : World) (hn : n ≤ 12) (h : RowF w g n F0) :
    Calls Try.prog 55 #[.slice (some ⟨g, 0, none⟩) n c] w fun e w' => e = .returned (.tuple #[]) ∧ ∃ F, RowF w' g n F ∧ InsI ((List.range n).map F0) n n F ∧ But g w w' := by
  have hb := blen_any (n : Int) w (by omega) (by omega)
  generalize hl : (Lib.bitLen (n : Int).toNat : Int) = l at hb
  clear hl
  have H := Lib.hid h
  clear h
  go_enter Try.func55, Try.ntmps55
  go_wp2_with fail
  refine hb.mono ?_
  rintro e w1 ⟨rfl, rfl⟩
  go_wp2_with fail
  refine (pdq_any g n c l F0 w hn H.out).mono ?_
  rintro e w1 ⟨rfl, F, h1, h2, h3⟩
  go_wp2
  go_end0
  exact ⟨rfl, F, h1, h2, h3⟩

theorem maps_keys (bm : Nat) (w : World) :
    Calls Try.prog 46 #[.map (some bm)] w fun e w' => e = .returned (.func (.func 56) #[] #[.pointer (some ⟨w.heap.size, 0, none⟩)]) ∧ w' = w.alloc (.cells #[.map (some bm)] 83) := by
  go_enter Try.func46, Try.ntmps46
  go_wp2
  go_ret
  exact ⟨rfl, rfl⟩

theorem keys_gives (n bm Bm : Nat) (hn : 1 ≤ n) (es : List Ent) (w : World) (hm : w.cell? ⟨Bm, 0, none⟩ = some (.map (some bm))) (hM : MapE w bm es) :
    SeqGives Fence.wide n Try.prog 56 #[.pointer (some ⟨Bm, 0, none⟩)] encU (fun ss => ss.Perm (es.map (·.p))) es.length w := fun l J W hW hJ hY h0 =>
  keys1_any n l Bm bm hn es J W hJ (cell_keep hW (World.block_lt_of_cell? w _ hm) hm) (hM.below hW) hY h0

theorem collected (bm Bm : Nat) (es : List Ent) (w : World) (hm : w.cell? ⟨Bm, 0, none⟩ = some (.map (some bm))) (hM : MapE w bm es) (hl : es.length ≤ 12) :
    Calls Try.prog 54 #[.func (.func 56) #[] #[.pointer (some ⟨Bm, 0, none⟩)]] w fun e w' => ∃ (v : Value) (ss : List Int), e = .returned v ∧ ss.Perm (es.map (·.p)) ∧ w'.ownsRow w.heap.size 28 1 v ss.length (ss.map encU) ∧ (v = .slice none 0 0 ↔ ss = []) ∧ Below w.heap.size w w' :=
  callsIn_wide.1 (collect_any 4 (by omega) _ _ (enters_of Try.func56 (by kernel_rfl) rfl) _ es.length (by omega) w (keys_gives 2 bm Bm (by omega) es w hm hM))

set_option maxRecDepth 100000 in
theorem sorted_any (bm Bm : Nat) (es : List Ent) (w : World) (hm : w.cell? ⟨Bm, 0, none⟩ = some (.map (some bm))) (hM : MapE w bm es) (hl : es.length ≤ 12) (hl0 : 0 < es.length) :
    Calls Try.prog 45 #[.func (.func 56) #[] #[.pointer (some ⟨Bm, 0, none⟩)]] w fun e w' =>
      ∃ g c F, e = .returned (.slice (some ⟨g, 0, none⟩) es.length c) ∧ RowF w' g es.length F ∧ InsI (es.map (·.p)) es.length es.length F ∧ Below w.heap.size w w' ∧ w.heap.size ≤ g := by
  have hc := collected bm Bm es w hm hM hl
  go_enter Try.func45, Try.ntmps45
  go_wp2_with fail
  refine hc.mono ?_
  rintro e w1 ⟨v, ss, rfl, hS, hown, hnil, hB⟩
  have hsl : ss.length = es.length := by rw [hS.length_eq]; simp
  rcases hown.2 with ⟨rfl, hz⟩ | ⟨g, cap, cur, rfl, hbase, hgb, r1, r2, r3, r4⟩
  · omega
  · have hR : RowF w1 g es.length (fun j => ss.getD j 0) := by
      refine ⟨fun j hj => ?_, fun j => by simp [World.frozen?, hgb]⟩
      have h1 : cur[j]? = some (encU (ss.getD j 0)) := by
        have h2 : (cur.toList.take ss.length)[j]? = (ss.map encU)[j]? := by rw [← r4, Nat.mul_one]
        have hj' : j < ss.length := by omega
        rw [List.getElem?_take_of_lt hj', List.getElem?_map, List.getElem?_eq_getElem hj'] at h2
        rw [← Array.getElem?_toList, h2, List.getD_eq_getElem?_getD, List.getElem?_eq_getElem hj']
        rfl
      simp only [World.cell?, hgb]
      simpa [encU] using h1
    have hmap : (List.range es.length).map (fun j => ss.getD j 0) = ss := by
      rw [← hsl]
      apply List.ext_getElem
      · simp
      · intro j h1 h2
        simp [List.getD_eq_getElem?_getD, List.getElem?_eq_getElem h2]
    rw [hsl]
    have H := Lib.hid hR
    have HM := Lib.hid hmap
    have HS := Lib.hid hS
    clear hR hmap hown r1 r2 r3 r4 hgb hnil hS hc hm hM
    go_wp2_with fail
    refine (sort_any g es.length cap _ w1 hl H.out).mono ?_
    rintro e w2 ⟨rfl, F, h1, h2, h3⟩
    go_wp2
    go_ret
    refine ⟨g, cap, F, rfl, h1, ⟨(h2.perm.trans (by rw [HM.out]; exact HS.out)), h2.rise⟩, hB.trans (h3.below hB.size hbase), hbase⟩
end Go.Proofs.Ytgdadkkiefkimaa
