/- dft.Scale; twiddle: Root, Table, Lifted. -/
import Derived.Test.YtjjfiidgjiekpaaGreatWMontBFopsDft
set_option linter.unusedVariables false
set_option linter.unusedSimpArgs false
set_option linter.unusedSectionVars false
namespace Go.Proofs.YtjjfiidgjiekpaaGreat
open Go.RowKit

/-- A row of n numbers, of which the first k stand. -/
def part (n : Nat) (f : Nat → Int) (k : Nat) : List Int := (List.range n).map fun j => if j < k then f j else 0
def full (n : Nat) (f : Nat → Int) : List Int := (List.range n).map f
theorem part_length (n : Nat) (f : Nat → Int) (k : Nat) : (part n f k).length = n := by simp [part]
theorem full_length (n : Nat) (f : Nat → Int) : (full n f).length = n := by simp [full]
theorem full_get {n : Nat} {f : Nat → Int} {i : Nat} (hi : i < n) : (full n f).getD i 0 = f i := by simp [full, List.getD_eq_getElem?_getD, hi]
theorem part_zero (n : Nat) (f : Nat → Int) : part n f 0 = List.replicate n 0 := by unfold part; simp [List.map_const']
theorem part_full (n : Nat) (f : Nat → Int) : part n f n = full n f := by
  unfold part full
  exact List.map_congr_left fun j hj => by rw [if_pos (List.mem_range.1 hj)]
theorem map_range_set {α : Type} (n : Nat) (f f' : Nat → α) (a : Nat) (v : α) (h1 : f' a = v) (h2 : ∀ j, j < n → j ≠ a → f' j = f j) : ((List.range n).map f).set a v = (List.range n).map f' := by
  apply List.ext_getElem
  · simp
  · intro j hj hj'
    rw [List.getElem_set]
    split
    · rename_i e; subst e; simp [h1]
    · rename_i e
      simp at hj'
      simp [h2 j hj' (fun h => e h.symm)]
theorem part_step {n : Nat} {f : Nat → Int} {k : Nat} : (part n f k).set k (f k) = part n f (k + 1) := by
  unfold part
  refine map_range_set _ _ _ _ _ (by rw [if_pos (by omega)]) fun j _ hj => ?_
  by_cases h : j < k
  · rw [if_pos h, if_pos (by omega)]
  · rw [if_neg h, if_neg (by omega)]
theorem ints_set' (k : IntKind) (xs : List Int) (j : Nat) (v : Int) : (ints k xs).set j (.int k v) = ints k (xs.set j v) := by simp [ints, List.map_set]
theorem ints_zero' (k : IntKind) (n : Nat) : ints k (List.replicate n 0) = List.replicate n (.int k 0) := by simp [ints]
theorem ints_length (k : IntKind) (xs : List Int) : (ints k xs).length = xs.length := by simp [ints]

/-- A row of n numbers of the call's own, behind the heap's old end. -/
def OwnU (w : World) (B : Nat) (v : Value) (n : Nat) (L : List Int) : Prop := w.ownsRow B 22 1 v n (ints .u64 L)
theorem OwnU.len {w : World} {B : Nat} {v : Value} {n : Nat} {L : List Int} (h : OwnU w B v n L) : L.length = n := by
  have := h.1
  rw [ints_length] at this
  omega
theorem OwnU.rd {w : World} {B : Nat} {v : Value} {n : Nat} {L : List Int} (h : OwnU w B v n L) : ∃ A c, v = .slice A n c ∧ RdI w w.heap.size .u64 A L := by
  have hl := h.len
  subst hl
  exact RdI.of_own h
theorem OwnU.drewN {w : World} {B : Nat} {v : Value} {n : Nat} {L : List Int} (h : OwnU w B v n L) (k : Nat) : OwnU (w.drewN k) B v n L := h
theorem OwnU.below {w w' : World} {B : Nat} {v : Value} {n : Nat} {L : List Int} (h : OwnU w B v n L) (hb : Below w.heap.size w w') : OwnU w' B v n L :=
  World.ownsRow.kept h ⟨hb.os, hb.tape, hb.output, hb.size, fun i hi _ => hb.block i hi⟩ (row := none) (by
    rcases h.2 with ⟨e, _⟩ | ⟨g', cap', cur', e, _⟩
    · exact .inl (by rw [e]; rfl)
    · exact .inr (by rw [e]; simp [Value.ownBlock]))
theorem OwnU.mono {w : World} {B B' : Nat} {v : Value} {n : Nat} {L : List Int} (h : OwnU w B v n L) (hb : B' ≤ B) : OwnU w B' v n L :=
  ⟨h.1, h.2.imp id fun ⟨g, cap, cur, e1, h2, r⟩ => ⟨g, cap, cur, e1, Nat.le_trans hb h2, r⟩⟩
/-- What a store into it leaves, and what the walk asks for it. -/
theorem OwnU.set {w : World} {B G c n : Nat} {L : List Int} (h : OwnU w B (.slice (some ⟨G, 0, none⟩) n c) n L) (k : Nat) (hk : k < n) (x : Int) :
    OwnU (w.setCell ⟨G, k, none⟩ (.int .u64 x)) B (.slice (some ⟨G, 0, none⟩) n c) n (L.set k x) ∧ w.cell? ⟨G, k, none⟩ = some (.int .u64 (L.getD k 0)) ∧ w.frozen? ⟨G, k, none⟩ = false ∧ B ≤ G := by
  have hl := h.len
  refine ⟨?_, ?_, World.ownsRow.frozenAt h k, (World.ownsRow.lt h G rfl).1⟩
  · have := World.ownsRow.stored h k (.int .u64 x)
    rw [ints_set'] at this
    exact this.1
  · rw [World.ownsRow.cellAt h k (by omega)]
    simp [ints, List.getD_eq_getElem?_getD, hl, hk]

set_option maxHeartbeats 1000000 in
theorem scale_fd {w : World} {v : Value} {p g : Int} (h : Fd w w.heap.size v p g) (A : Option Addr) (c : Nat) (L : List Int) (hl : L.length ≤ 4294967296) (hU : U64s L) (hR : RdI w w.heap.size .u64 A L) :
    Calls Tryz.prog 120 #[v, .slice A L.length c] w fun e w' => ∃ V t, e = .returned V ∧ InvOf p L.length t ∧ OwnU w' w.heap.size V L.length (full L.length fun i => t * L.getD i 0 % p) ∧ Below w.heap.size w w' := by
  obtain ⟨i0, hi, hz0, hz1, hz2⟩ := info_parts info_u64
  have p3 := h.p3
  have pm := h.pmx
  have HU := Lib.hid hU
  have HF := Lib.hid h
  clear hU h
  go_enter Tryz.func120, Tryz.ntmps120
  go_wp2_with fail
  refine (finv_fd HF.out L.length (by omega) (by omega)).mono ?_
  rintro e w1 ⟨⟨n1, rfl⟩, t, rfl, hT⟩
  have hTr := hT.range (by omega)
  have HT := Lib.hid hT
  clear hT
  go_wp2_with fail
  refine (flift_fd (HF.out.drewN n1) t hTr.1 (by omega)).mono ?_
  rintro e w1 ⟨rfl, n2, hw1⟩
  have hB1 : Below w.heap.size w w1 := by rw [hw1]; exact below_drewN (below_drewN (Below.refl _ _) _) _
  clear hw1
  obtain ⟨lt, hlt⟩ : ∃ lt, lt = lft p t := ⟨_, rfl⟩
  rw [← hlt]
  have HLT := Lib.hid hlt
  clear hlt
  go_wp2_with (at_make; refine wpList_make_full _ rfl _ _ 60 rfl w.heap.size 22 i0 (.int .u64 0) 1 Tryz.underlying60 hi hz0 hz1 _ _ _ _ L.length rfl rfl ?l1 ?l2 ?b2 ?b3 hB1.size ?_)
  case l1 => omega
  case l2 => omega
  case b2 => rw [hz2]; omega
  case b3 => unfold maxLen; omega
  intro w3 hown hgrow
  have hown0 : OwnU w3 w.heap.size (.slice (some ⟨w1.heap.size, 0, none⟩) L.length L.length) L.length (part L.length (fun i => t * L.getD i 0 % p) 0) := by
    unfold OwnU
    rw [part_zero, ints_zero', ← toList_madeCells_one]; exact hown
  have hB3 : Below w.heap.size w w3 := hB1.grown hgrow hB1.size (fun k h => by cases h)
  obtain ⟨G, hG⟩ : ∃ G, G = w1.heap.size := ⟨_, rfl⟩
  rw [← hG] at hown0
  have hGb : w.heap.size ≤ G := by rw [hG]; exact hB1.size
  rw [← hG]
  clear hown hgrow hB1 hG
  go_wp2
  go_loopw [21] (fun I wr => ∃ k : Nat, I = .int .i64 k ∧ k ≤ L.length ∧ OwnU wr w.heap.size (.slice (some ⟨G, 0, none⟩) L.length L.length) L.length (part L.length (fun i => t * L.getD i 0 % p) k) ∧ Below w.heap.size w wr) (fun I _ => L.length - (intOf I).toNat)
  case atStart => exact ⟨0, rfl, by omega, hown0, hB3⟩
  case round =>
    clear hown0 hB3
    obtain ⟨k, rfl, hk, hown, hB⟩ := hrel
    by_cases hlt : k < L.length
    · obtain ⟨b, o', rfl, hbl, hcell⟩ := hR (by omega)
      have d := cell_keep hB hbl (hcell k hlt)
      obtain ⟨x, hx⟩ : ∃ x, x = L.getD k 0 := ⟨_, rfl⟩
      have hu := HU.out.at hlt
      rw [← hx] at d hu
      have HX := Lib.hid hx
      have hTm := Lib.hid (ftimes_fd (HF.out.below hB) t x hu.1 hu.2)
      rw [← HLT.out] at hTm
      have HO := Lib.hid hown
      clear hx hcell hR hown
      go_wp2_with fail
      refine hTm.out.mono ?_
      rintro e w4 ⟨rfl, n3, hw4⟩
      have hB4 : Below w.heap.size w w4 := by rw [hw4]; exact below_drewN hB _
      have hO4 : OwnU w4 w.heap.size (.slice (some ⟨G, 0, none⟩) L.length L.length) L.length (part L.length (fun i => t * L.getD i 0 % p) k) := by rw [hw4]; exact HO.out.drewN _
      have d4 : w4.cell? ⟨b, o' + k, none⟩ = some (.int .u64 x) := by rw [hw4]; exact d
      obtain ⟨hset, hce, hfr, _⟩ := hO4.set k hlt (t * x % p)
      have hps : (part L.length (fun i => t * L.getD i 0 % p) k).set k (t * x % p) = part L.length (fun i => t * L.getD i 0 % p) (k + 1) := by rw [HX.out]; exact part_step
      rw [hps] at hset
      have HS := Lib.hid hset
      obtain ⟨y, hy⟩ : ∃ y, y = t * x % p := ⟨_, rfl⟩
      rw [← hy] at HS ⊢
      clear hw4 hO4 hps hset d hB hy
      go_wp2
      go_roundw
      case rel => exact ⟨k + 1, by go_num, by omega, HS.out, hB4.setCell hGb _⟩
      case measure => simp [intOf]; omega
    · obtain rfl : k = L.length := by omega
      rw [part_full] at hown
      have HO := Lib.hid hown
      clear hown
      go_wp2
      go_ret
      exact ⟨_, t, rfl, HT.out, HO.out, hB⟩

/-- The root of an order, or what makes 1 with it. -/
def RootOf (p g n : Int) (inv : Bool) (W : Int) : Prop := (inv = false → W = g ^ ((p - 1) / n).toNat % p) ∧ (inv = true → InvOf p (g ^ ((p - 1) / n).toNat % p) W)
theorem RootOf.range {p g n W : Int} {inv : Bool} (hp : 1 ≤ p) (h : RootOf p g n inv W) : 0 ≤ W ∧ W < p := by
  cases inv with
  | false => rw [h.1 rfl]; exact ⟨Int.emod_nonneg _ (by omega), Int.emod_lt_of_pos _ (by omega)⟩
  | true => exact (h.2 rfl).range hp
theorem chk_zero {p n most : Int} (h : chk p n most = 0) : 1 ≤ n ∧ n ≤ most ∧ (p - 1) % n = 0 := by
  unfold chk at h
  split at h
  · omega
  · split at h
    · omega
    · split at h
      · exact ⟨by omega, by omega, ‹_›⟩
      · omega
theorem troot_yes {w : World} {B : Nat} {v : Value} {p g : Int} (h : Fd w B v p g) (n : Int) (inv : Bool) (hn : chk p n 4096 = 0) (g0 : 0 ≤ g) (g1 : g < p) :
    Calls Tryz.prog 144 #[v, .int .i64 n, .bool inv] w fun e w' => ∃ W, e = .returned (.tuple #[.int .u64 W, .int .i64 0]) ∧ RootOf p g n inv W ∧ ∃ k, w' = w.drewN k := by
  have p3 := h.p3
  have pm := h.pmx
  obtain ⟨c1, c2, c3⟩ := chk_zero hn
  have hd : (decide (0 < n) && ((p - 1) % n == 0)) = true := by rw [c3]; simp; omega
  have hRt := Lib.hid (froot_yes h n (by omega) (by omega) hd g0 g1)
  have t1 : decide (4096 < n) = false := by simp; omega
  have w0 : 0 ≤ g ^ ((p - 1) / n).toNat % p := Int.emod_nonneg _ (by omega)
  have w1 : g ^ ((p - 1) / n).toNat % p < p := Int.emod_lt_of_pos _ (by omega)
  have hIn := Lib.hid (fun k => finv_fd (h.drewN k) (g ^ ((p - 1) / n).toNat % p) w0 (by omega))
  have HR : Hid (∀ W, (inv = false → W = g ^ ((p - 1) / n).toNat % p) ∧ (inv = true → InvOf p (g ^ ((p - 1) / n).toNat % p) W) → RootOf p g n inv W) := Lib.hid (fun W h => h)
  obtain ⟨z, hz⟩ : ∃ z, z = g ^ ((p - 1) / n).toNat % p := ⟨_, rfl⟩
  rw [← hz] at hRt hIn HR w0 w1
  clear hd hz c3 hn
  obtain ⟨b, c, t, o, s, sv, rfl, hb, hc, hF⟩ := h
  clear hF
  cases inv with
  | false =>
    go_enter Tryz.func144, Tryz.ntmps144
    go_wp2_with fail
    refine hRt.out.mono ?_
    rintro e w1 ⟨rfl, n1, rfl⟩
    go_wp2
    go_ret2
    exact ⟨z, rfl, HR.out z ⟨fun _ => rfl, (fun h => by cases h)⟩, _, rfl⟩
  | true =>
    go_enter Tryz.func144, Tryz.ntmps144
    go_wp2_with fail
    refine hRt.out.mono ?_
    rintro e w1 ⟨rfl, n1, rfl⟩
    go_wp2_with fail
    refine (hIn.out n1).mono ?_
    rintro e w1 ⟨⟨n2, rfl⟩, t, rfl, ht⟩
    have HT := Lib.hid ht
    clear ht
    go_wp2
    go_ret2
    exact ⟨t, rfl, HR.out t ⟨(fun h => by cases h), fun _ => HT.out⟩, _, rfl⟩

set_option maxHeartbeats 1000000 in
theorem table_yes {w : World} {v : Value} {p g : Int} (h : Fd w w.heap.size v p g) (n : Nat) (inv : Bool) (hn : chk p n 4096 = 0) (g0 : 0 ≤ g) (g1 : g < p) :
    Calls Tryz.prog 116 #[v, .int .i64 n, .bool inv] w fun e w' => ∃ V W, e = .returned (.tuple #[V, .int .i64 0]) ∧ RootOf p g n inv W ∧ OwnU w' w.heap.size V n (full n fun i => W ^ i % p) ∧ Below w.heap.size w w' := by
  obtain ⟨i0, hi, hz0, hz1, hz2⟩ := info_parts info_u64
  have p3 := h.p3
  have pm := h.pmx
  obtain ⟨c1, c2, c3⟩ := chk_zero hn
  have HN := Lib.hid hn
  have HF := Lib.hid h
  clear h c3 hn
  go_enter Tryz.func116, Tryz.ntmps116
  go_wp2_with fail
  refine (troot_yes HF.out n inv HN.out g0 g1).mono ?_
  rintro e w1 ⟨W, rfl, hW, n1, rfl⟩
  have hWr := hW.range (by omega)
  have HW := Lib.hid hW
  clear hW
  go_wp2_with fail
  refine (flift_fd (HF.out.drewN n1) W hWr.1 (by omega)).mono ?_
  rintro e w1 ⟨rfl, n2, hw1⟩
  have hB1 : Below w.heap.size w w1 := by rw [hw1]; exact below_drewN (below_drewN (Below.refl _ _) _) _
  clear hw1
  obtain ⟨lt, hlt⟩ : ∃ lt, lt = lft p W := ⟨_, rfl⟩
  rw [← hlt]
  have HLT := Lib.hid hlt
  clear hlt
  go_wp2_with (at_make; refine wpList_make_full _ rfl _ _ 60 rfl w.heap.size 22 i0 (.int .u64 0) 1 Tryz.underlying60 hi hz0 hz1 _ _ _ _ n rfl rfl ?l1 ?l2 ?b2 ?b3 hB1.size ?_)
  case l1 => omega
  case l2 => omega
  case b2 => rw [hz2]; omega
  case b3 => unfold maxLen; omega
  intro w3 hown hgrow
  have hown0 : OwnU w3 w.heap.size (.slice (some ⟨w1.heap.size, 0, none⟩) n n) n (part n (fun i => W ^ i % p) 0) := by
    unfold OwnU
    rw [part_zero, ints_zero', ← toList_madeCells_one]; exact hown
  have hB3 : Below w.heap.size w w3 := hB1.grown hgrow hB1.size (fun k h => by cases h)
  obtain ⟨G, hG⟩ : ∃ G, G = w1.heap.size := ⟨_, rfl⟩
  rw [← hG] at hown0
  have hGb : w.heap.size ≤ G := by rw [hG]; exact hB1.size
  rw [← hG]
  have ex : Hid ((1 : Int) = W ^ 0 % p) := Lib.hid (by rw [Int.pow_zero, Int.emod_eq_of_lt (by omega) (by omega)])
  clear hown hgrow hB1 hG
  go_wp2
  go_loopw [12, 31] (fun X I wr => ∃ (k : Nat) (x : Int), X = .int .u64 x ∧ I = .int .i64 k ∧ k ≤ n ∧ 0 ≤ x ∧ x < p ∧ Hid (x = W ^ k % p) ∧ OwnU wr w.heap.size (.slice (some ⟨G, 0, none⟩) n n) n (part n (fun i => W ^ i % p) k) ∧ Below w.heap.size w wr) (fun _ I _ => n - (intOf I).toNat)
  case atStart => exact ⟨0, 1, rfl, rfl, by omega, by omega, by omega, ex, hown0, hB3⟩
  case round =>
    clear hown0 hB3
    obtain ⟨k, x, rfl, rfl, hk, x0, x1, hx, hown, hB⟩ := hrel
    by_cases hlt : k < n
    · obtain ⟨hset, hce, hfr, _⟩ := hown.set k hlt x
      have hps : (part n (fun i => W ^ i % p) k).set k x = part n (fun i => W ^ i % p) (k + 1) := by rw [hx.out]; exact part_step
      rw [hps] at hset
      have HS := Lib.hid hset
      have hB4 : Below w.heap.size w (wr.setCell ⟨G, k, none⟩ (.int .u64 x)) := hB.setCell hGb _
      have y0 := Int.emod_nonneg (W * x) (show p ≠ 0 by omega)
      have y1 := Int.emod_lt_of_pos (W * x) (show 0 < p by omega)
      have hnx : Hid (W * x % p = W ^ (k + 1) % p) := Lib.hid (by rw [hx.out, Int.mul_emod, Int.emod_emod, ← Int.mul_emod, Int.pow_succ, Int.mul_comm])
      have hTm := Lib.hid (fun wz (hb : Below w.heap.size w wz) => ftimes_fd (HF.out.below hb) W x x0 (by omega))
      rw [← HLT.out] at hTm
      obtain ⟨y, hy⟩ : ∃ y, y = W * x % p := ⟨_, rfl⟩
      rw [← hy] at y0 y1 hnx hTm
      clear hown hps hset hy
      go_wp2_with fail
      refine (hTm.out _ hB4).mono ?_
      rintro e w4 ⟨rfl, n3, rfl⟩
      go_wp2
      go_roundw
      case rel => exact ⟨k + 1, y, rfl, by go_num, by omega, y0, y1, hnx, HS.out.drewN _, below_drewN hB4 _⟩
      case measure => simp [intOf]; omega
    · obtain rfl : k = n := by omega
      rw [part_full] at hown
      have HO := Lib.hid hown
      clear hown
      go_wp2
      go_ret2
      exact ⟨_, W, rfl, HW.out, HO.out, hB⟩

set_option maxHeartbeats 1000000 in
theorem lifted_yes {w : World} {v : Value} {p g : Int} (h : Fd w w.heap.size v p g) (n : Nat) (inv : Bool) (hn : chk p n 4096 = 0) (g0 : 0 ≤ g) (g1 : g < p) :
    Calls Tryz.prog 75 #[v, .int .i64 n, .bool inv] w fun e w' => ∃ V W, e = .returned (.tuple #[V, .int .i64 0]) ∧ RootOf p g n inv W ∧ OwnU w' w.heap.size V n (full n fun i => lft p (W ^ i)) ∧ Below w.heap.size w w' := by
  have p3 := h.p3
  have pm := h.pmx
  obtain ⟨c1, c2, c3⟩ := chk_zero hn
  have HN := Lib.hid hn
  have HF := Lib.hid h
  clear h c3 hn
  go_enter Tryz.func75, Tryz.ntmps75
  go_wp2_with fail
  refine (table_yes HF.out n inv HN.out g0 g1).mono ?_
  rintro e w1 ⟨V, W, rfl, hW, hown, hB1⟩
  have HW := Lib.hid hW
  have hform : ∃ G c, V = .slice (some ⟨G, 0, none⟩) n c := by
    rcases hown.2 with ⟨_, h0⟩ | ⟨g', cap', cur', e, _⟩
    · omega
    · exact ⟨g', cap', e⟩
  obtain ⟨G, c, rfl⟩ := hform
  have hGb : w.heap.size ≤ G := (hown.set 0 (by omega) 0).2.2.2
  have hown0 : OwnU w1 w.heap.size (.slice (some ⟨G, 0, none⟩) n c) n ((List.range n).map fun j => if j < 0 then lft p (W ^ j) else W ^ j % p) := by
    have : ((List.range n).map fun j => if j < 0 then lft p (W ^ j) else W ^ j % p) = full n fun i => W ^ i % p := by
      unfold full
      exact List.map_congr_left fun j _ => by rw [if_neg (by omega)]
    rw [this]; exact hown
  clear hW hown
  go_wp2
  go_loopw [21] (fun I wr => ∃ k : Nat, I = .int .i64 k ∧ k ≤ n ∧ OwnU wr w.heap.size (.slice (some ⟨G, 0, none⟩) n c) n ((List.range n).map fun j => if j < k then lft p (W ^ j) else W ^ j % p) ∧ Below w.heap.size w wr) (fun I _ => n - (intOf I).toNat)
  case atStart => exact ⟨0, rfl, by omega, hown0, hB1⟩
  case round =>
    clear hown0 hB1
    obtain ⟨k, rfl, hk, hown, hB⟩ := hrel
    by_cases hlt : k < n
    · have d := (hown.set k hlt 0).2.1
      have hx : ((List.range n).map fun j => if j < k then lft p (W ^ j) else W ^ j % p).getD k 0 = W ^ k % p := by simp [List.getD_eq_getElem?_getD, hlt]
      rw [hx] at d
      have x0 := Int.emod_nonneg (W ^ k) (show p ≠ 0 by omega)
      have x1 := Int.emod_lt_of_pos (W ^ k) (show 0 < p by omega)
      have hLf := Lib.hid (flift_fd (HF.out.below hB) (W ^ k % p) x0 (by omega))
      rw [lft_emod] at hLf
      obtain ⟨x, hxe⟩ : ∃ x, x = W ^ k % p := ⟨_, rfl⟩
      obtain ⟨y, hy⟩ : ∃ y, y = lft p (W ^ k) := ⟨_, rfl⟩
      rw [← hxe] at d hLf
      rw [← hy] at hLf
      have HO := Lib.hid hown
      have HY := Lib.hid hy
      clear hx hown hxe hy
      go_wp2_with fail
      refine hLf.out.mono ?_
      rintro e w4 ⟨rfl, n3, hw4⟩
      have hB4 : Below w.heap.size w w4 := by rw [hw4]; exact below_drewN hB _
      have hO4 : OwnU w4 w.heap.size (.slice (some ⟨G, 0, none⟩) n c) n ((List.range n).map fun j => if j < k then lft p (W ^ j) else W ^ j % p) := by rw [hw4]; exact HO.out.drewN _
      obtain ⟨hset, hce, hfr, _⟩ := hO4.set k hlt y
      have hps : ((List.range n).map fun j => if j < k then lft p (W ^ j) else W ^ j % p).set k y = (List.range n).map fun j => if j < k + 1 then lft p (W ^ j) else W ^ j % p :=
        map_range_set _ _ _ _ _ (by rw [if_pos (by omega), HY.out]) fun j _ hj => by
          by_cases h : j < k
          · rw [if_pos h, if_pos (by omega)]
          · rw [if_neg h, if_neg (by omega)]
      rw [hps] at hset
      have HS := Lib.hid hset
      clear hw4 hO4 hps hset d hB
      go_wp2
      go_roundw
      case rel => exact ⟨k + 1, by go_num, by omega, HS.out, hB4.setCell hGb _⟩
      case measure => simp [intOf]; omega
    · obtain rfl : k = n := by omega
      have he : ((List.range k).map fun j => if j < k then lft p (W ^ j) else W ^ j % p) = full k fun i => lft p (W ^ i) := by
        unfold full
        exact List.map_congr_left fun j hj => by rw [if_pos (List.mem_range.1 hj)]
      rw [he] at hown
      have HO := Lib.hid hown
      clear hown he
      go_wp2
      go_ret2
      exact ⟨_, W, rfl, HW.out, HO.out, hB⟩
end Go.Proofs.YtjjfiidgjiekpaaGreat
