/- sieve.Row. -/
import Derived.Test.YtjjfiidgjiekpaaGreatWSeqToSorted
import Derived.Test.YtjjfiidgjiekpaaGreatWKnownFToTrI
set_option linter.unusedVariables false
set_option linter.unusedSimpArgs false
set_option linter.unusedSectionVars false
section
/- sieve.Row. -/
namespace Go.Proofs.YtjjfiidgjiekpaaGreat
open Go.RowKit
open Alg

theorem info_ent3 : (Tryz.prog.info? 107).map (fun i => (i.zero, i.size, i.bytes)) = some (some (.agg #[.int .u64 0, .int .u64 0, .slice none 0 0]), 3, 40) := by kernel_rfl
theorem MapE.nodup {w : World} {bm : Nat} {es : List Ent} (h : MapE w bm es) : (es.map (·.p)).Nodup := by
  obtain ⟨ms, clock, hb, hst, hz, hx⟩ := h
  have hkeys : ms.toList.map (·.key) = es.map (fun e => encU e.p) := by
    apply List.ext_getElem
    · simp [hz]
    · intro i h1 h2
      have hi : i < es.length := by simpa using h2
      obtain ⟨x, A, c, a1, a2, _⟩ := hx i hi
      rw [Array.getElem?_eq_some_iff] at a1
      obtain ⟨h, rfl⟩ := a1
      simp only [List.getElem_map, Array.getElem_toList]
      rw [a2]
      simp [List.getD_eq_getElem?_getD, List.getElem?_eq_getElem hi, encU]
  have h1 := hst.2.2
  rw [hkeys] at h1
  exact List.Pairwise.map (R := fun a b : Ent => encU a.p ≠ encU b.p) _ (fun a b h e => h (by rw [e])) (List.pairwise_map.1 h1)

/-- The map, with all factors' rows below B. -/
def MapB (w : World) (B bm : Nat) (es : List Ent) : Prop :=
  ∃ ms clock, w.heap[bm]? = some (.map ms clock) ∧ ms.size = es.length ∧
    ∀ i, i < es.length → ∃ x A c, ms[i]? = some x ∧ x.key = .int .u64 (es.getD i Ent.none).p ∧ x.val = entryV (es.getD i Ent.none) A c ∧ RdPI w B A (es.getD i Ent.none).fs
theorem MapE.toB {w : World} {bm : Nat} {es : List Ent} (h : MapE w bm es) : MapB w w.heap.size bm es := by
  obtain ⟨ms, clock, hb, _, hz, hx⟩ := h
  exact ⟨ms, clock, hb, hz, hx⟩
theorem MapB.below {w w' : World} {B bm : Nat} {es : List Ent} (h : MapB w B bm es) (hb : Below B w w') (hl : bm < B) : MapB w' B bm es := by
  obtain ⟨ms, clock, hm, hz, hx⟩ := h
  refine ⟨ms, clock, (hb.block bm hl).trans hm, hz, fun i hi => ?_⟩
  obtain ⟨x, A, c, a1, a2, a3, a4⟩ := hx i hi
  exact ⟨x, A, c, a1, a2, a3, a4.below hb⟩
theorem mapB_look {w : World} {B bm : Nat} {es : List Ent} (h : MapB w B bm es) {e : Ent} (he : e ∈ es) :
    ∃ i A c, i < es.length ∧ (es.getD i Ent.none).p = e.p ∧ RdPI w B A (es.getD i Ent.none).fs ∧
      (Instr.lookup 172 (.map (some bm)) (.int .u64 e.p) false).run Tryz.prog w = .ok (entryV (es.getD i Ent.none) A c) w := by
  obtain ⟨ms, clock, hm, hz, hx⟩ := h
  have hmem : ∀ x ∈ ms.toList, ∃ i, i < es.length ∧ x.key = .int .u64 (es.getD i Ent.none).p ∧ ∃ A c, x.val = entryV (es.getD i Ent.none) A c ∧ RdPI w B A (es.getD i Ent.none).fs := fun x h => by
    obtain ⟨i, hi, rfl⟩ := List.getElem_of_mem h
    have hi' : i < es.length := by rw [← hz]; simpa using hi
    obtain ⟨y, A, c, a1, a2, a3, a4⟩ := hx i hi'
    have : ms[i]? = some (ms.toList[i]) := by
      rw [Array.getElem?_eq_getElem (by simpa using hi)]; simp
    rw [this] at a1
    injection a1 with a1
    exact ⟨i, hi', by rw [a1]; exact a2, A, c, by rw [a1]; exact a3, a4⟩
  have hk : MapKept.IsKey (.int .u64) (.int .u64 e.p) := rfl
  have hks : ∀ x ∈ ms.toList, MapKept.IsKey (.int .u64) x.key := fun x h => by
    obtain ⟨i, _, e, _⟩ := hmem x h
    rw [e]; rfl
  rcases MapKept.findNow_spec hk ms.toList 0 hks with ⟨h1, h2⟩ | ⟨j, x, h1, h2, h3⟩
  · exfalso
    obtain ⟨i, hi, rfl⟩ := List.getElem_of_mem he
    obtain ⟨x, A, c, a1, a2, _⟩ := hx i hi
    have hxm : x ∈ ms.toList := by
      rw [Array.getElem?_eq_some_iff] at a1
      obtain ⟨h, rfl⟩ := a1
      exact Array.getElem_mem_toList h
    refine h2 x hxm ?_
    rw [a2]
    simp [List.getD_eq_getElem?_getD, List.getElem?_eq_getElem hi]
  · obtain ⟨i, hi, a2, A, c, a3, a4⟩ := hmem x (List.mem_of_getElem? h2)
    rw [h3] at a2
    injection a2 with _ a2
    exact ⟨i, A, c, hi, a2.symm, a4, by simp [Instr.lookup, run_underlying und_map, MapKept.run_getObj_map hm, MapKept.run_checkKey und_u64 hk, MapKept.run_findKey und_u64 h1, Result.andThen, a3]⟩

/-- Cells of entries, with their slices. -/
def entCells (l : List (Ent × Option Addr × Nat)) : List Value := l.flatMap fun x => [.int .u64 x.1.p, .int .u64 x.1.g, .slice x.2.1 x.1.fs.length x.2.2]
theorem entCells_append (a : List (Ent × Option Addr × Nat)) (x : Ent × Option Addr × Nat) : entCells (a ++ [x]) = entCells a ++ [.int .u64 x.1.p, .int .u64 x.1.g, .slice x.2.1 x.1.fs.length x.2.2] := by simp [entCells]

/-- What Row answers. -/
def RowP (p : Int) (w : World) (r : Ending) (w' : World) : Prop :=
  Below w.heap.size w w' ∧
  ((¬ (2 < p ∧ p ≤ 65536 ∧ Prime p.toNat) ∧ r = .returned (.tuple #[.slice none 0 0, .int .i64 1])) ∨
   ((2 < p ∧ p ≤ 65536 ∧ Prime p.toNat) ∧ ∃ A c es, ∃ g : Nat, r = .returned (.tuple #[.slice A es.length c, .int .i64 0]) ∧ es.length ≤ c ∧ RdE w' w'.heap.size A es ∧ (∀ e ∈ es, EntOk e) ∧ AllRight es ∧ FirstE es p g ∧ IsGen p.toNat g))

/-- What has been put out: each an entry of N, by F's order. -/
def OutL (N : List Ent) (F : Nat → Int) (l : List (Ent × Option Addr × Nat)) (B : Nat) (w : World) : Prop :=
  ∀ i, i < l.length → (l.getD i (Ent.none, none, 0)).1 ∈ N ∧ (l.getD i (Ent.none, none, 0)).1.p = F i ∧ RdPI w B (l.getD i (Ent.none, none, 0)).2.1 (l.getD i (Ent.none, none, 0)).1.fs
theorem entCells_get (l : List (Ent × Option Addr × Nat)) : ∀ j, j < l.length → (entCells l)[j * 3]? = some (.int .u64 (l.getD j (Ent.none, none, 0)).1.p) ∧ (entCells l)[j * 3 + 1]? = some (.int .u64 (l.getD j (Ent.none, none, 0)).1.g) ∧ (entCells l)[j * 3 + 2]? = some (.slice (l.getD j (Ent.none, none, 0)).2.1 (l.getD j (Ent.none, none, 0)).1.fs.length (l.getD j (Ent.none, none, 0)).2.2) := by
  induction l with
  | nil => intro j hj; simp at hj
  | cons x t ih =>
    intro j hj
    have hx : entCells (x :: t) = .int .u64 x.1.p :: .int .u64 x.1.g :: .slice x.2.1 x.1.fs.length x.2.2 :: entCells t := rfl
    rw [hx]
    cases j with
    | zero => exact ⟨rfl, rfl, rfl⟩
    | succ j =>
      have := ih j (by simpa using hj)
      rw [show (j + 1) * 3 = j * 3 + 1 + 1 + 1 by omega]
      simpa using this
theorem row_end {N : List Ent} {F : Nat → Int} {l : List (Ent × Option Addr × Nat)} {v : Value} {n : Nat} {w w5 wr : World}
    (hI : InsI (N.map (·.p)) N.length N.length F) (hnd : (N.map (·.p)).Nodup) (hN : GathN n [] N) (h12 : N.length ≤ 12) (hL : OutL N F l w5.heap.size w5) (hl : l.length = N.length)
    (hown : wr.ownsRow w5.heap.size 107 3 v l.length (entCells l)) (hBr : Below w5.heap.size w5 wr) (hB : Below w.heap.size w wr) (o1 : (2 : Int) < n) (o2 : (n : Int) ≤ 65536) (o3 : Prime n) :
    RowP n w (.returned (.tuple #[v, .int .i64 0])) wr := by
  refine ⟨hB, .inr ⟨⟨o1, o2, by simpa using o3⟩, ?_⟩⟩
  have hE : RowE N (l.map (·.1)) F N.length := ⟨by simp [hl], fun j hj => by
    have h1 := hL j (by omega)
    have e : (l.map (·.1)).getD j Ent.none = (l.getD j (Ent.none, none, 0)).1 := by
      simp [List.getD_eq_getElem?_getD, List.getElem?_eq_getElem (show j < l.length by omega)]
    rw [e]; exact ⟨h1.1, h1.2.1⟩⟩
  have hNN : ∀ e ∈ N, GoodE e ∧ Clo N e := fun e he => by have := hN.each e he; exact ⟨this.1, by simpa using this.2.1⟩
  have hAR := row_right hI hnd hNN h12 hE
  obtain ⟨e, he, hep⟩ : ∃ e ∈ N, e.p = (n : Int) := by
    rcases hN.has with h | h
    · omega
    · simpa using h
  obtain ⟨q, g, fs, rfl, hq, h3, h6, hG, hF⟩ := (hNN e he).1
  have hqn : q = n := by have : (q : Int) = n := hep; omega
  subst hqn
  have hlen0 : 0 < l.length := by rw [hl]; exact List.length_pos_of_mem he
  have hown0 := hown
  rcases hown.2 with ⟨rfl, hz⟩ | ⟨gb, cap, cur, rfl, hbase, hgb, r1, r2, r3, r4⟩
  · omega
  · have hlt : gb < wr.heap.size := (Array.getElem?_eq_some_iff.1 hgb).1
    refine ⟨some ⟨gb, 0, none⟩, cap, l.map (·.1), g, by simp, by simpa using r1, ?_, ?_, hAR, ?_, by simpa using hG⟩
    · intro _
      refine ⟨gb, 0, rfl, hlt, fun j hj => ?_⟩
      have hj' : j < l.length := by simpa using hj
      have e0 : (l.map (·.1)).getD j Ent.none = (l.getD j (Ent.none, none, 0)).1 := by
        simp [List.getD_eq_getElem?_getD, List.getElem?_eq_getElem hj']
      rw [e0]
      obtain ⟨c0, c1, c2⟩ := entCells_get l j hj'
      have d0 := hown0.cells (g := gb) rfl (j * 3) _ c0
      have d1 := hown0.cells (g := gb) rfl (j * 3 + 1) _ c1
      have d2 := hown0.cells (g := gb) rfl (j * 3 + 2) _ c2
      have ea : ∀ n, (⟨gb, 0, none⟩ : Addr).add n = ⟨gb, 0 + n, none⟩ := fun n => by unfold Addr.add; split <;> simp_all
      rw [ea] at d0 d1 d2
      exact ⟨_, _, d0, by rw [Nat.add_assoc]; exact d1, by rw [Nat.add_assoc]; exact d2, (((hL j hj').2.2).below hBr).mono hBr.size⟩
    · intro e he
      obtain ⟨x, hx, rfl⟩ := List.mem_map.1 he
      obtain ⟨j, hj, rfl⟩ := List.getElem_of_mem hx
      have := (hL j hj).1
      rw [List.getD_eq_getElem?_getD, List.getElem?_eq_getElem hj, Option.getD_some] at this
      exact good_ok (hNN _ this).1
    · have hin : (q : Int) ∈ (List.range N.length).map F := hI.perm.mem_iff.2 (List.mem_map.2 ⟨_, he, rfl⟩)
      obtain ⟨k, hk, hFk⟩ := List.mem_map.1 hin
      have hk' := List.mem_range.1 hk
      obtain ⟨m1, m2⟩ := hE.each k hk'
      rw [hFk] at m2
      have hFn := List.pairwise_map.1 (hI.perm.nodup_iff.2 hnd)
      refine ⟨k, by simp [hl, hk'], m2, ?_, fun j hj hx => ?_⟩
      · obtain ⟨q', g', fs', heq, _, _, _, hG', _⟩ := (hNN _ m1).1
        rw [heq] at m2 ⊢
        have : q' = q := by have : (q' : Int) = q := m2; omega
        subst this
        show (g' : Int) = g
        rw [hG'.unique hG]
      · rw [(hE.each j (by omega)).2, ← hFk] at hx
        have h3 := List.pairwise_iff_getElem.1 hFn j k (by simp; omega) (by simpa using hk') hj
        simp at h3
        exact h3 hx
theorem RdPI.back {w w' : World} {B : Nat} {A : Option Addr} {fs : List (Int × Int)} (h : RdPI w' B A fs) (hb : Below B w w') : RdPI w B A fs := fun hl => by
  obtain ⟨b, o, e, hlt, hc⟩ := h hl
  exact ⟨b, o, e, hlt, fun j hj => ⟨(hb.cell (p := ⟨b, _, none⟩) hlt).symm.trans (hc j hj).1, (hb.cell (p := ⟨b, _, none⟩) hlt).symm.trans (hc j hj).2⟩⟩
set_option maxHeartbeats 2000000 in
set_option maxRecDepth 100000 in
theorem row_any (p : Int) (w : World) (h0 : 0 ≤ p) (h1 : p ≤ 18446744073709551615) : Calls Tryz.prog 95 #[.int .u64 p] w (RowP p w) := by
  obtain ⟨i0, hi, hz0, hz1, hz2⟩ := info_parts info_ent3
  by_cases ho : 2 < p ∧ p ≤ 65536 ∧ Prime p.toNat
  · obtain ⟨n, rfl⟩ := Int.eq_ofNat_of_zero_le h0
    obtain ⟨o1, o2, o3⟩ := ho
    have o3' : Prime n := by simpa using o3
    have HO : Hid ((decide (2 < (n : Int)) && decide ((n : Int) ≤ 65536) && isP (n : Int).toNat) = true) := Lib.hid (by simp; exact ⟨by omega, isP_true.2 o3'⟩)
    have HP := Lib.hid o3'
    clear o3 o3'
    go_enter Tryz.func95, Tryz.ntmps95
    go_wp2_with fail
    refine (odd_any _ _ (by omega) (by omega)).mono ?_
    rintro e w1 ⟨rfl, hB1⟩
    rw [HO.out]
    have hmk : (Instr.makeMap 172 none).run Tryz.prog w1 = .ok (.map (some w1.heap.size)) (w1.alloc (.map #[] 0)) := by simp [Instr.makeMap, Result.andThen]
    have hm0 : Hid (MapE (w1.alloc (.map #[] 0)) w1.heap.size []) := Lib.hid ⟨#[], 0, World.alloc_heap_new _ _, MapKept.stamped_empty 0, rfl, fun i hi => absurd hi (by simp)⟩
    have hB2 : Below w.heap.size w (w1.alloc (.map #[] 0)) := hB1.alloc hB1.size _
    have hbm : w.heap.size ≤ w1.heap.size := hB1.size
    generalize hw2 : w1.alloc (.map #[] 0) = w2 at *
    obtain ⟨bm, hbe⟩ : ∃ bm, bm = w1.heap.size := ⟨_, rfl⟩
    rw [← hbe] at hmk hm0 hbm
    clear hw2 hbe hB1
    go_wp2_with fail
    refine (gather_any (n + 1) n (by omega) HP.out (by omega) w2 bm [] hm0.out).mono ?_
    rintro e w3 ⟨N, rfl, hM3, hBut, hN⟩
    clear hmk
    have hB3 : Below w.heap.size w w3 := hB2.trans (hBut.below hB2.size hbm)
    rw [List.nil_append] at hM3
    have hl12 : N.length ≤ 12 := by
      have hodd : n % 2 = 1 := by
        rcases Nat.mod_two_eq_zero_or_one n with h | h
        · rcases HP.out.2 2 (Nat.dvd_of_mod_eq_zero h) with h' | h' <;> omega
        · exact h
      have h1 := cnt_le (p := n) (by omega) (by omega) hodd
      have := hN.few 16 (by omega)
      omega
    have HN : Hid (GathN n [] N) := Lib.hid hN
    have hl0 : 0 < N.length := by
      rcases hN.has with h | ⟨e, he, _⟩
      · omega
      · exact List.length_pos_of_mem (by simpa using he)
    have HND := Lib.hid hM3.nodup
    have HM3 := Lib.hid hM3
    clear hM3 hN hBut hm0 hB2
    go_wp2_with fail
    refine (maps_keys bm w3).mono ?_
    rintro e w4 ⟨rfl, rfl⟩
    have hB4 := hB3.alloc hB3.size (.cells #[.map (some bm)] 172)
    have hcb : (w3.alloc (.cells #[.map (some bm)] 172)).cell? ⟨w3.heap.size, 0, none⟩ = some (.map (some bm)) := World.cell?_alloc_at _ _ _ _ rfl
    have HM4 : Hid (MapE (w3.alloc (.cells #[.map (some bm)] 172)) bm N) := Lib.hid (HM3.out.below ((Below.refl _ _).alloc (Nat.le_refl _) _))
    generalize w3.heap.size = Bm at *
    generalize w3.alloc (.cells #[.map (some bm)] 172) = w4 at *
    go_wp2_with fail
    refine (sorted_any bm Bm N w4 hcb HM4.out hl12 hl0).mono ?_
    rintro e w5 ⟨g, c, F, rfl, hF, hI, hB5, hg⟩
    have hBw := hB4.trans (hB5.mono hB4.size)
    have HB := Lib.hid ((HM4.out.below hB5).toB)
    have hbm5 : bm < w5.heap.size := (HM4.out.below hB5).lt
    have HF := Lib.hid hF
    have HI := Lib.hid hI
    have hg5 : g < w5.heap.size := World.block_lt_of_cell? w5 _ (hF.cell 0 hl0)
    clear hcb HM4 HM3 hB5 hB4 hF hI hg hB3
    have hB00 : Below w5.heap.size w5 w5 := Below.refl _ _
    go_wp2
    go_loopw [5, 19] (fun O I wr => ∃ (j : Nat) (l : List (Ent × Option Addr × Nat)), I = .int .i64 j ∧ j ≤ N.length ∧ l.length = j ∧ wr.ownsRow w5.heap.size 107 3 O l.length (entCells l) ∧ Below w5.heap.size w5 wr ∧ OutL N F l w5.heap.size w5) (fun _ I _ => N.length - (intOf I).toNat)
    case atStart => exact ⟨0, [], rfl, by omega, rfl, World.ownsRow_nil _ _ _ _, hB00, fun i hi => absurd hi (by simp)⟩
    case round =>
      obtain ⟨j, l, rfl, hj, hlj, hown, hBr, hL⟩ := hrel
      have HL := Lib.hid hL
      clear hL hB00
      by_cases hlt : j < N.length
      · have cF : wr.cell? ⟨g, j, none⟩ = some (.int .u64 (F j)) := cell_keep hBr hg5 (HF.out.cell j hlt)
        obtain ⟨e0, he0, hp0⟩ : ∃ e ∈ N, e.p = F j := by
          have : F j ∈ N.map (·.p) := HI.out.perm.mem_iff.1 (List.mem_map.2 ⟨j, List.mem_range.2 hlt, rfl⟩)
          obtain ⟨e, he, h⟩ := List.mem_map.1 this
          exact ⟨e, he, h⟩
        obtain ⟨i, A, c', hi', hip, hRA, hlk⟩ := mapB_look (HB.out.below hBr hbm5) he0
        rw [hp0] at hip hlk
        obtain ⟨e1, hee⟩ : ∃ e1, e1 = N.getD i Ent.none := ⟨_, rfl⟩
        have he1 : Hid (e1 ∈ N) := Lib.hid (by rw [hee, List.getD_eq_getElem?_getD, List.getElem?_eq_getElem hi']; exact List.getElem_mem hi')
        rw [← hee] at hip hRA hlk
        have HRA := Lib.hid (And.intro hip hRA)
        obtain ⟨q, hq⟩ : ∃ q, q = F j := ⟨_, rfl⟩
        rw [← hq] at cF hlk
        have hqe : e1.p = q := by rw [hip, hq]
        simp only [entryV, hqe] at hlk
        have HQ := Lib.hid hqe
        clear hq hp0 hip hee he0 hRA hqe
        go_wp2_with (at_builtin; refine wpList_append_own _ rfl _ _ 119 rfl w5.heap.size 107 i0 (.agg #[.int .u64 0, .int .u64 0, .slice none 0 0]) 3 40 Tryz.underlying119 hi hz0 hz1 hz2 rfl (by decide) _ _ _ rfl (hown.alloc _) ⟨wr.heap.size, 0, none⟩ 1 1 [.int .u64 q, .int .u64 e1.g, .slice A e1.fs.length c'] rfl rfl ?c1 ?c2 ?c3 ?c4 ?c5 ?_)
        case c1 =>
          intro k u hk
          match k, hk with
          | 0, hk => simp at hk; subst hk; simp [Addr.add]
          | 1, hk => simp at hk; subst hk; simp [Addr.add]
          | 2, hk => simp at hk; subst hk; simp [Addr.add]
        case c2 => intro u hu; simp at hu; rcases hu with rfl | rfl | rfl <;> rfl
        case c3 => unfold maxLen; omega
        case c4 => omega
        case c5 => have := hBr.size; simp; omega
        intro v' w6 hown' hgrow _
        rw [← HQ.out, ← entCells_append l (e1, A, c')] at hown'
        have hB' := (hBr.alloc hBr.size (.cells #[.int .u64 e1.p, .int .u64 e1.g, .slice A e1.fs.length c'] 107)).grown (by rw [HQ.out]; exact hgrow) (by have := hBr.size; simp; omega) (fun k hk => (hown.lt k hk).1)
        have HL' : Hid (OutL N F (l ++ [(e1, A, c')]) w5.heap.size w5) := Lib.hid (fun k hk => by
          rw [List.length_append, List.length_singleton] at hk
          by_cases hkl : k < l.length
          · have e2 : (l ++ [(e1, A, c')]).getD k (Ent.none, none, 0) = l.getD k (Ent.none, none, 0) := by simp [List.getD_eq_getElem?_getD, List.getElem?_append_left hkl]
            rw [e2]
            exact HL.out k hkl
          · have e2 : (l ++ [(e1, A, c')]).getD k (Ent.none, none, 0) = (e1, A, c') := by
              have : k = l.length := by omega
              subst this; simp [List.getD_eq_getElem?_getD]
            rw [e2]
            have : k = j := by omega
            subst this
            exact ⟨he1.out, HRA.out.1, HRA.out.2.back hBr⟩)
        clear hgrow hown hBr hlk cF
        go_wp2
        go_roundw
        case rel => exact ⟨j + 1, l ++ [(e1, A, c')], by go_num, by omega, by simp [hlj], by rw [List.length_append, List.length_singleton, hlj]; first | exact hown' | (rw [hlj] at hown'; exact hown'), hB', HL'.out⟩
        case measure => simp [intOf]; omega
      · obtain rfl : j = N.length := by omega
        have HBB := Lib.hid (hBw.trans (hBr.mono hBw.size))
        have HO := Lib.hid hown
        clear hown
        go_wp2
        go_ret2
        exact row_end HI.out HND.out HN.out hl12 HL.out hlj HO.out hBr HBB.out o1 o2 HP.out
  · have HO : Hid ((decide (2 < p) && decide (p ≤ 65536) && isP p.toNat) = false) := Lib.hid (by
      rw [Bool.eq_false_iff]; intro h; simp only [Bool.and_eq_true, decide_eq_true_eq, isP_true] at h; exact ho ⟨h.1.1, h.1.2, h.2⟩)
    have HN := Lib.hid ho
    clear ho
    go_enter Tryz.func95, Tryz.ntmps95
    go_wp2_with fail
    refine (odd_any _ _ (by omega) (by omega)).mono ?_
    rintro e w1 ⟨rfl, hB1⟩
    rw [HO.out]
    go_wp2
    go_ret2
    exact ⟨hB1, .inl ⟨HN.out, rfl⟩⟩
end Go.Proofs.YtjjfiidgjiekpaaGreat
end

section
/- field.Small. -/
namespace Go.Proofs.YtjjfiidgjiekpaaGreat
open Go.RowKit
open Alg

def OddP (p : Int) : Prop := 2 < p ∧ p ≤ 65536 ∧ Prime p.toNat
/-- What Small answers. -/
def SmallP (p : Int) (w : World) (r : Ending) (w' : World) : Prop :=
  (OddP p ∧ ∃ g : Nat, IsGen p.toNat g ∧ MadeP p g w r w') ∨ (¬ OddP p ∧ MadeP 0 0 w r w')
set_option maxHeartbeats 1000000 in
theorem Small_any (p : Int) (w : World) (h0 : 0 ≤ p) (h1 : p ≤ 18446744073709551615) : Calls Tryz.prog 52 #[.int .u64 p] w (SmallP p w) := by
  go_enter Tryz.func52, Tryz.ntmps52
  go_wp2_with fail
  refine (row_any p w h0 h1).mono ?_
  rintro r w1 ⟨hB1, ⟨hno, rfl⟩ | ⟨ho, A, c, es, g, rfl, hlc, hR, hE, hA, hF, hG⟩⟩
  · have HN : Hid (¬ OddP p) := Lib.hid hno
    clear hno
    go_wp2
    go_ret2
    exact .inr ⟨HN.out, hB1, .inl ⟨1, rfl, by decide, rfl⟩⟩
  · have HO : Hid (OddP p) := Lib.hid ho
    have HE := Lib.hid hE
    have HA := Lib.hid hA
    have HF := Lib.hid hF
    have HG := Lib.hid hG
    have hl32 := hA.1
    clear hE hA hF hG ho
    go_wp2_with fail
    refine (fnew_any A c es p w1 (by omega) hlc hR HE.out).mono ?_
    rintro r w2 ⟨hB2, hN⟩
    have hB := hB1.trans (hB2.mono hB1.size)
    rcases hN with ⟨er, h1, _⟩ | ⟨_, h1, _⟩ | ⟨v, g', h1, hF', rfl, hFd⟩
    · exact absurd HA.out h1
    · obtain ⟨k, hk1, hk2, _⟩ := HF.out
      exact absurd hk2 (h1 _ (by rw [List.getD_eq_getElem?_getD, List.getElem?_eq_getElem hk1]; simp))
    · have hg : g' = g := by
        obtain ⟨a, a1, a2, a3, a4⟩ := HF.out
        obtain ⟨b, b1, b2, b3, b4⟩ := hF'
        have : a = b := by
          rcases Nat.lt_trichotomy a b with h | h | h
          · exact absurd a2 (b4 a h)
          · exact h
          · exact absurd b2 (a4 b h)
        subst this
        rw [← a3, ← b3]
      subst hg
      have hp3 : 3 ≤ p := by have := HO.out.1; omega
      clear hF' hB1 hB2 hR
      go_wp2
      go_ret2
      exact .inl ⟨HO.out, g, HG.out, hB, .inr ⟨v, hp3, ⟨es, HA.out, HF.out⟩, rfl, hFd⟩⟩
end Go.Proofs.YtjjfiidgjiekpaaGreat
end
