/- exact: the document's sum for one number of a product. Plain. -/
import Derived.Test.YtemoginoanhjlaaGreatWExMToExK
import Derived.Test.YtemoginoanhjlaaGreatWB01CGarBEqT
set_option linter.unusedVariables false
set_option linter.unusedSimpArgs false
set_option linter.unusedSectionVars false
section
/- exact: the document's sum for one number of a product. Plain. -/
set_option linter.unusedVariables false
set_option linter.unusedSimpArgs false
namespace Go.Proofs.YtemoginoanhjlaaGreat
open Go.RowKit
open Alg
theorem sI_more {n m : Nat} {f : Nat → Int} (h : ∀ i, m ≤ i → f i = 0) (hm : m ≤ n) : sI n f = sI m f := by
  induction n with
  | zero => rw [show m = 0 by omega]
  | succ n ih =>
    rcases Nat.lt_or_ge n m with h1 | h1
    · rw [show m = n + 1 by omega]
    · rw [sI_succ, ih h1, h n h1]; omega
theorem mostL_nat {L : List Int} (h : U64s L) : ∃ m : Nat, mostL L = (m : Int) ∧ m < 18446744073709551616 := by
  have h1 := mostL_nonneg L
  have h2 := mostL_lt h
  exact ⟨(mostL L).toNat, by omega, by omega⟩
/-- What the document's sum adds at i. -/
def atF (A B : List Int) (k i : Nat) : Int := if i ≤ k then A.getD i 0 * B.getD (k - i) 0 else 0
theorem atF_all (A B : List Int) (k : Nat) : sI A.length (atF A B k) = cI A B k := by
  have h1 : sI (A.length + (k + 1)) (atF A B k) = sI A.length (atF A B k) := sI_more (fun i hi => by
    unfold atF
    split
    · rw [getD_out hi, Int.zero_mul]
    · rfl) (by omega)
  have h2 : sI (A.length + (k + 1)) (atF A B k) = sI (k + 1) (atF A B k) := sI_more (fun i hi => by
    unfold atF
    rw [if_neg (by omega)]) (by omega)
  rw [← h1, h2]
  exact sI_congr fun i hi => by unfold atF; rw [if_pos (by omega)]
/-- The document's sum of the first i. -/
def atN (A B : List Int) (k i : Nat) : Nat := w192 (sI i (atF A B k))
theorem atN_zero (A B : List Int) (k : Nat) : atN A B k 0 = 0 := rfl
theorem atN_lt (A B : List Int) (k i : Nat) : atN A B k i < 6277101735386680763835789423207666416102355444464034512896 := w192_lt _
theorem atN_end (A B : List Int) (k : Nat) : atN A B k A.length = w192 (cI A B k) := by unfold atN; rw [atF_all]
theorem atN_skip {A B : List Int} {k i : Nat} (h : k < i ∨ B.length ≤ k - i) : atN A B k (i + 1) = atN A B k i := by
  unfold atN
  rw [sI_succ]
  have e : atF A B k i = 0 := by
    unfold atF
    split
    · rw [getD_out (A := B) (by omega), Int.mul_zero]
    · rfl
  rw [e, Int.add_zero]
theorem w192_add (c t : Int) (T : Nat) (h : (T : Int) % 6277101735386680763835789423207666416102355444464034512896 = t % 6277101735386680763835789423207666416102355444464034512896) :
    (w192 c + T) % 6277101735386680763835789423207666416102355444464034512896 = w192 (c + t) := by
  unfold w192
  omega
/-- A number with a sign. -/
def sgI (s : Bool) (u : Int) : Int := if s then -u else u
theorem sg_mul (s t : Bool) (u v : Int) : sgI s u * sgI t v = sgI (s != t) (u * v) := by
  cases s <;> cases t <;> simp [sgI, Int.mul_neg, Int.neg_mul]
theorem atN_next {A B : List Int} {k i : Nat} (hi : i ≤ k) {s t : Bool} {u v : Nat} (hA : A.getD i 0 = sgI s u) (hB : B.getD (k - i) 0 = sgI t v) :
    (atN A B k i + (if (s != t) = true then turn (u * v) else u * v)) % 6277101735386680763835789423207666416102355444464034512896 = atN A B k (i + 1) := by
  unfold atN
  rw [sI_succ]
  refine w192_add _ _ _ ?_
  unfold atF
  rw [if_pos hi, hA, hB, sg_mul, ← Int.natCast_mul]
  generalize u * v = x
  unfold sgI
  split
  · unfold turn
    simp only [Nat.reducePow]
    omega
  · rfl
end Go.Proofs.YtemoginoanhjlaaGreat
end

section
/- exact.Unsigned. -/
set_option linter.unusedVariables false
set_option linter.unusedSimpArgs false
namespace Go.Proofs.YtemoginoanhjlaaGreat
open Go.RowKit
open Alg
/-- What a product of lists answers: an error; or n threes. -/
def XRes (w w' : World) (e : Ending) (er : Int) (n : Nat) (X : Nat → Nat) : Prop :=
  ((er ≠ 0 ∧ e = .returned (.tuple #[.slice none 0 0, .int .i64 er])) ∨ (er = 0 ∧ ∃ G, e = .returned (.tuple #[.slice (some ⟨G, 0, none⟩) n n, .int .i64 0]) ∧ w.heap.size ≤ G ∧ R3 w' G n X)) ∧ Below w.heap.size w w'
theorem sizesL_pos {L : List Int} (h : U64s L) : sizesL L = L := by
  unfold sizesL
  rw [List.map_congr_left (g := id) (fun x hx => by have := h x hx; show ((x.natAbs : Nat) : Int) = x; omega), List.map_id]
theorem u64s_nonneg {L : List Int} (h : U64s L) : ∀ x ∈ L, 0 ≤ x := fun x hx => (h x hx).1
/-- The value of a number of the product, where the bound holds. -/
theorem uns_is {N : Nat} {L M : List Int} (hN : N < 6277101735386680763835789423207666416102355444464034512896) (hU : U64s L) (hU' : U64s M) (c0 : mnI L.length M.length ≤ 1024)
    (h : fitsB N (mnI L.length M.length) (mostL L).toNat (mostL M).toNat false = true) (k : Nat) : (cI L M k % (N : Int)).toNat = w192 (cI L M k) := by
  unfold fitsB at h
  rw [Bool.and_eq_true, decide_eq_true_eq, decide_eq_true_eq] at h
  have hb := cI_abs L M k
  rw [sizesL_pos hU, sizesL_pos hU'] at hb
  exact plain_is hN (cI_nonneg (u64s_nonneg hU) (u64s_nonneg hU') k) (by have := h.2; simp only [Bool.false_eq_true, if_false] at this; omega)
set_option maxHeartbeats 2000000 in
set_option maxRecDepth 100000 in
theorem xuns_nil (A B : Option Addr) (cA cB : Nat) (L M : List Int) (w : World) (hl : L.length ≤ 140737488351232) (hm : M.length ≤ 140737488351232) (hA : RdI w w.heap.size .u64 A L) (hB : RdI w w.heap.size .u64 B M) :
    Calls Tryz.prog 35 #[.pointer none, .slice A L.length cA, .slice B M.length cB] w fun e w' => e = .returned (.tuple #[.slice none 0 0, .int .i64 2]) ∧ w = w' := by
  have H1 := Lib.hid (xmost_any A cA L w hl hA)
  have H2 := Lib.hid (xmost_any B cB M w hm hB)
  have HC := Lib.hid (fun (a b : Int) => xcheck_nil L.length M.length a b false w)
  clear hA hB
  go_enter Tryz.func35, Tryz.ntmps35
  go_wp2_with fail
  refine H1.out.mono ?_
  rintro e w1 ⟨rfl, rfl⟩
  go_wp2_with fail
  refine H2.out.mono ?_
  rintro e w1 ⟨rfl, rfl⟩
  go_wp2_with fail
  refine (HC.out _ _).mono ?_
  rintro e w1 ⟨rfl, rfl⟩
  go_wp2
  go_ret2
  exact ⟨rfl, rfl⟩
set_option maxHeartbeats 2000000 in
set_option maxRecDepth 100000 in
theorem xuns_yes {w : World} {v : Value} {p q r : Nat} (h : TrioP w w.heap.size v p q r) (hT : Tri p q r) (A B : Option Addr) (cA cB : Nat) (L M : List Int) (hl : L.length ≤ 140737488351232) (hm : M.length ≤ 140737488351232) (hU : U64s L) (hU' : U64s M) (hA : RdI w w.heap.size .u64 A L) (hB : RdI w w.heap.size .u64 B M) :
    Calls Tryz.prog 35 #[v, .slice A L.length cA, .slice B M.length cB] w fun e w' => XRes w w' e (chkX p q r L.length M.length (mostL L).toNat (mostL M).toNat false) (L.length + M.length - 1) (fun k => w192 (cI L M k)) := by
  have H1 := Lib.hid (xmost_any A cA L w hl hA)
  have H2 := Lib.hid (xmost_any B cB M w hm hB)
  obtain ⟨ma, ea, la⟩ := mostL_nat hU
  obtain ⟨mb, eb, lb⟩ := mostL_nat hU'
  have hN := hT.lt'.2
  have HC := Lib.hid (xcheck_yes h hN L.length M.length hl hm ma mb la lb false)
  rw [ea] at H1
  rw [eb] at H2
  obtain ⟨c, hc⟩ : ∃ c, c = chkX p q r L.length M.length ma mb false := ⟨_, rfl⟩
  rw [ea, eb, Int.toNat_natCast, Int.toNat_natCast, ← hc]
  rw [← hc] at HC
  obtain ⟨gv, hv⟩ : ∃ gv, v = .pointer (some ⟨gv, 0, none⟩) := by
    obtain ⟨G, _, _, _, _, _, _, _, _, e, _⟩ := h
    exact ⟨G, e⟩
  by_cases h0 : c = 0
  · have hz := chkX_zero (hc.symm.trans h0)
    obtain ⟨z1, z2, z3, z4, z5⟩ := hz
    have HJ : Hid (∀ W, Below w.heap.size w W → Calls Tryz.prog 81 #[v, .slice A L.length cA, .slice B M.length cB, (.func (.func 82) #[] #[])] W fun e w' => ∃ G, e = .returned (.slice (some ⟨G, 0, none⟩) (L.length + M.length - 1 : Nat) (L.length + M.length - 1 : Nat)) ∧ W.heap.size ≤ G ∧
      R3 w' G (L.length + M.length - 1) (fun k => w192 (cI L M k)) ∧ Below W.heap.size W w') := Lib.hid (fun W hW => (xjoin_uint64 ((h.below hW).mono hW.size) hT A B cA cB L M hU hU' ((hA.below hW).mono hW.size) ((hB.below hW).mono hW.size) (by omega) (by omega) z3 z4).mono fun e w' ⟨G, e1, e2, e3, e4⟩ =>
        ⟨G, e1, e2, e3.congr (fun k _ => uns_is hN hU hU' (by rw [mnI_eq]; have := Nat.min_le_left L.length M.length; omega) (by rw [ea, eb, Int.toNat_natCast, Int.toNat_natCast]; exact z5) k), e4⟩)
    subst h0
    subst hv
    clear hc ea eb la lb hN h hT hU hU' hA hB z1 z2 z4 z5 z3
    go_enter Tryz.func35, Tryz.ntmps35
    go_wp2_with fail
    refine H1.out.mono ?_
    rintro e w1 ⟨rfl, rfl⟩
    go_wp2_with fail
    refine H2.out.mono ?_
    rintro e w1 ⟨rfl, rfl⟩
    go_wp2_with fail
    refine HC.out.mono ?_
    rintro e w1 ⟨rfl, hB1⟩
    go_wp2_with fail
    refine (HJ.out _ hB1).mono ?_
    rintro e w2 ⟨G, rfl, hG, hR, hB2⟩
    have HE := Lib.hid (And.intro hR (hB1.trans (hB2.mono hB1.size)))
    have hs := hB1.size
    clear hR hB2 hB1
    go_wp2
    go_ret2
    exact ⟨.inr ⟨rfl, G, rfl, by omega, HE.out.1⟩, HE.out.2⟩
  · have t : (c != 0) = true := by simpa using h0
    subst hv
    clear hc ea eb la lb hN h hT hU hU' hA hB
    go_enter Tryz.func35, Tryz.ntmps35
    go_wp2_with fail
    refine H1.out.mono ?_
    rintro e w1 ⟨rfl, rfl⟩
    go_wp2_with fail
    refine H2.out.mono ?_
    rintro e w1 ⟨rfl, rfl⟩
    go_wp2_with fail
    refine HC.out.mono ?_
    rintro e w1 ⟨rfl, hB1⟩
    go_wp2
    go_ret2
    exact ⟨.inl ⟨h0, rfl⟩, hB1⟩
end Go.Proofs.YtemoginoanhjlaaGreat
end

section
/- exact.join (int). -/
set_option linter.unusedVariables false
set_option linter.unusedSimpArgs false
namespace Go.Proofs.YtemoginoanhjlaaGreat
open Go.RowKit
open Alg
set_option maxHeartbeats 4000000 in
set_option maxRecDepth 100000 in
theorem xjoin_int {w : World} {v : Value} {p q r : Nat} (h : TrioP w w.heap.size v p q r) (hT : Tri p q r) (A B : Option Addr) (cA cB : Nat) (L M : List Int) (hI : I64s L) (hI' : I64s M) (hA : RdI w w.heap.size .i64 A L) (hB : RdI w w.heap.size .i64 B M)
    (l1 : 0 < L.length) (l2 : 0 < M.length) (l3 : (L.length : Int) + (M.length : Int) - 1 ≤ 1024) (hf : ∀ i, i < 3 → fitR (pd ((L.length : Int) + (M.length : Int) - 1)) ((pk p q r i : Nat) : Int) = true) :
    Calls Tryz.prog 63 #[v, .slice A L.length cA, .slice B M.length cB, (.func (.func 64) #[] #[])] w fun e w' => ∃ G, e = .returned (.slice (some ⟨G, 0, none⟩) (L.length + M.length - 1 : Nat) (L.length + M.length - 1 : Nat)) ∧ w.heap.size ≤ G ∧
      R3 w' G (L.length + M.length - 1) (fun k => (cI L M k % ((p * q * r : Nat) : Int)).toNat) ∧ Below w.heap.size w w' := by
  have hz := (zero_of_info info_p3).1
  obtain ⟨i3, hi3, hz0, hz1, hz2⟩ := info_parts info_th
  have HT := Lib.hid h
  obtain ⟨gv, hv⟩ : ∃ gv, v = .pointer (some ⟨gv, 0, none⟩) := by
    obtain ⟨G, _, _, _, _, _, _, _, _, e, _⟩ := h
    exact ⟨G, e⟩
  have HR1 : Hid (∀ W vi g m, Below w.heap.size w W → Fd W W.heap.size vi m g → Calls Tryz.prog 124 #[vi, .slice A L.length cA, (.func (.func 64) #[] #[])] W fun e w' => ∃ V, e = .returned V ∧ OwnU w' W.heap.size V L.length (resL m L) ∧ Below W.heap.size W w') := Lib.hid (fun W vi g m hW hF => xrests_int hF A cA L (by omega) hI ((hA.below hW).mono hW.size))
  have HR2 : Hid (∀ W vi g m, Below w.heap.size w W → Fd W W.heap.size vi m g → Calls Tryz.prog 124 #[vi, .slice B M.length cB, (.func (.func 64) #[] #[])] W fun e w' => ∃ V, e = .returned V ∧ OwnU w' W.heap.size V M.length (resL m M) ∧ Below W.heap.size W w') := Lib.hid (fun W vi g m hW hF => xrests_int hF B cB M (by omega) hI' ((hB.below hW).mono hW.size))
  have HFl : Hid (∀ W i, i < 3 → TrioP W W.heap.size v p q r → Calls Tryz.prog 121 #[v, .int .i64 ((i : Nat) : Int)] W fun e w' => (∃ vi gi, e = .returned vi ∧ Fd W W.heap.size vi ((pk p q r i : Nat) : Int) gi ∧ Cert ((pk p q r i : Nat) : Int) gi) ∧ W = w') := Lib.hid (fun W i hi h => tfield_cert h i hi)
  have HLn : Hid (∀ i, i < 3 → ∀ W vi g V1 V2 B1 B2, Cert ((pk p q r i : Nat) : Int) g → Fd W W.heap.size vi ((pk p q r i : Nat) : Int) g → OwnU W B1 V1 L.length (resL ((pk p q r i : Nat) : Int) L) → OwnU W B2 V2 M.length (resL ((pk p q r i : Nat) : Int) M) → Calls Tryz.prog 123 #[vi, V1, V2] W fun e w' => ∃ G, e = .returned (.tuple #[.slice (some ⟨G, 0, none⟩) (L.length + M.length - 1 : Nat) (L.length + M.length - 1 : Nat), .int .i64 0]) ∧ W.heap.size ≤ G ∧
      PO w' G (L.length + M.length - 1) (fun k => cI L M k % ((pk p q r i : Nat) : Int)) ∧ Below W.heap.size W w') := Lib.hid (fun i hi W vi g V1 V2 B1 B2 hC hF h1 h2 => lin_res hC hF h1 h2 l1 l2 l3 (hf i hi))
  have HJn : Hid (∀ (k x0 x1 x2 : Nat), (x0 : Int) = cI L M k % (p : Int) → (x1 : Int) = cI L M k % (q : Int) → (x2 : Int) = cI L M k % (r : Int) → ∀ W, TrioP W W.heap.size v p q r → Calls Tryz.prog 125 #[v, .agg (three (w3n x0 x1 x2))] W fun e w' => e = .returned (.agg (three ((cI L M k % ((p * q * r : Nat) : Int)).toNat))) ∧ Below W.heap.size W w') := Lib.hid (fun k x0 x1 x2 e0 e1 e2 W hW => by
    have hp3 := hT.p3
    have hq3 := hT.q3
    have hr3 := hT.r3
    have hpm := hT.pm
    have hqm := hT.qm
    have hrm := hT.rm
    have a0 := Int.emod_lt_of_pos (cI L M k) (show (0 : Int) < (p : Int) by omega)
    have a1 := Int.emod_lt_of_pos (cI L M k) (show (0 : Int) < (q : Int) by omega)
    have a2 := Int.emod_lt_of_pos (cI L M k) (show (0 : Int) < (r : Int) by omega)
    refine (tjoin_yes hW hT x0 x1 x2 (by omega) (by omega) (by omega)).mono ?_
    rintro e w' ⟨j, rfl, hj, j1, j2, j3, hB⟩
    have hm : ∀ (m x : Nat), (x : Int) = cI L M k % (m : Int) → j % m = x % m → (j : Int) % (m : Int) = cI L M k % (m : Int) := fun m x hx h => by
      rw [← Int.natCast_emod, h, Int.natCast_emod, hx, Int.emod_emod_of_dvd _ (Int.dvd_refl _)]
    exact ⟨by rw [join_is hT hj (hm p x0 e0 j1) (hm q x1 e1 j2) (hm r x2 e2 j3)], hB⟩)
  have hln : ∃ n, n = L.length + M.length - 1 := ⟨_, rfl⟩
  obtain ⟨n, hn⟩ := hln
  rw [← hn] at HLn ⊢
  have hnI : (L.length : Int) + (M.length : Int) - 1 = (n : Int) := by omega
  have hn0 : n ≤ 1024 := by omega
  have HPk : Hid (∀ i, i < 3 → ∀ k, 0 ≤ cI L M k % ((pk p q r i : Nat) : Int)) := Lib.hid (fun i hi k => Int.emod_nonneg _ (by
    have hp3 := hT.p3
    have hq3 := hT.q3
    have hr3 := hT.r3
    unfold pk; split <;> (try split) <;> omega))
  obtain ⟨X, hX⟩ : ∃ X, X = fun k => (cI L M k % ((p * q * r : Nat) : Int)).toNat := ⟨_, rfl⟩
  have HXe : Hid (∀ k, X k = (cI L M k % ((p * q * r : Nat) : Int)).toNat) := Lib.hid (fun k => by rw [hX])
  rw [← hX]
  clear hn hA hB hf h hI hI' hX l1 l2
  have R0 := Lib.hid (lay1 w 178 (prow (fun _ => 0) n 0))
  rw [prow_zero] at R0
  subst hv
  go_enter Tryz.func63, Tryz.ntmps63
  go_wp2_with fail
  have Q0 : Hid (RowAt (w.alloc (.cells #[.slice none 0 0, .slice none 0 0, .slice none 0 0] 178)) w.heap.size 178 (prow (fun _ => 0) n 0) ∧ (∀ j, j < 0 → w.heap.size < (fun _ => 0) j ∧ PO (w.alloc (.cells #[.slice none 0 0, .slice none 0 0, .slice none 0 0] 178)) ((fun _ => 0) j) n (fun k => cI L M k % ((pk p q r j : Nat) : Int))) ∧ Below w.heap.size w (w.alloc (.cells #[.slice none 0 0, .slice none 0 0, .slice none 0 0] 178))) := Lib.hid ⟨R0.out.1, fun j hj => by omega, R0.out.2⟩
  generalize (w.alloc (.cells #[.slice none 0 0, .slice none 0 0, .slice none 0 0] 178)) = w1 at *
  go_loopw [14] (fun I wr => ∃ (i : Nat) (Gf : Nat → Nat), I = .int .i64 i ∧ i ≤ 3 ∧ Hid (RowAt wr w.heap.size 178 (prow Gf n i) ∧ (∀ j, j < i → w.heap.size < Gf j ∧ PO wr (Gf j) n (fun k => cI L M k % ((pk p q r j : Nat) : Int))) ∧ Below w.heap.size w wr)) (fun I _ => 3 - (intOf I).toNat)
  case atStart => exact ⟨0, fun _ => 0, rfl, by omega, Q0⟩
  case round =>
    clear Q0 R0
    obtain ⟨i, Gf, rfl, hi, Q⟩ := hrel
    by_cases hlt : i < 3
    · have f0 : (0 : Int) ≤ (i : Int) := by omega
      have f1 : (i : Int) < 3 := by omega
      have HB0 := Lib.hid Q.out.2.2
      go_wp2_with fail
      refine (HFl.out _ i hlt ((HT.out.below HB0.out).mono HB0.out.size)).mono ?_
      rintro e w2 ⟨⟨vi, gi, rfl, hFd, hC⟩, rfl⟩
      have HFd := Lib.hid hFd
      have HC := Lib.hid hC
      clear hFd hC
      go_wp2_with fail
      refine (HR1.out _ _ _ _ HB0.out HFd.out).mono ?_
      rintro e w3 ⟨V1, rfl, hO1, hB1⟩
      have HO1 := Lib.hid hO1
      have HF3 := Lib.hid ((HFd.out.below hB1).mono hB1.size)
      have HB3 := Lib.hid (HB0.out.trans (hB1.mono HB0.out.size))
      have HY1 := Lib.hid hB1
      clear hO1 hB1
      go_wp2_with fail
      refine (HR2.out _ _ _ _ HB3.out HF3.out).mono ?_
      rintro e w4 ⟨V2, rfl, hO2, hB2⟩
      have HO2 := Lib.hid hO2
      have HO3 := Lib.hid (HO1.out.below hB2)
      have HF4 := Lib.hid ((HF3.out.below hB2).mono hB2.size)
      have HB4 := Lib.hid (HB3.out.trans (hB2.mono HB3.out.size))
      have HY2 := Lib.hid (HY1.out.trans (hB2.mono HY1.out.size))
      clear hO2 hB2
      go_wp2_with fail
      refine (HLn.out i hlt _ _ _ _ _ _ _ HC.out HF4.out HO3.out HO2.out).mono ?_
      rintro e w5 ⟨G', rfl, hG1, hPO, hB5⟩
      have HY5 := Lib.hid (HY2.out.trans (hB5.mono HY2.out.size))
      have HB5 := Lib.hid (HB4.out.trans (hB5.mono HB4.out.size))
      have HRow := Lib.hid (Q.out.1.keep HY5.out)
      have hrl := Q.out.1.lt
      have hGw : w.heap.size < G' := by have := HY2.out.size; omega
      have e0 := HRow.out.cell (prow_get Gf n i i hlt)
      have e1 := HRow.out.frozen i
      have hself : psl Gf n i i = .slice none 0 0 := if_neg (by omega)
      rw [hself] at e0
      have Q5 : Hid (RowAt (w5.setCell ⟨w.heap.size, i, none⟩ (.slice (some ⟨G', 0, none⟩) n n)) w.heap.size 178 (prow (fun j => if j = i then G' else Gf j) n (i + 1)) ∧ (∀ j, j < (i + 1) → w.heap.size < (fun j => if j = i then G' else Gf j) j ∧ PO (w5.setCell ⟨w.heap.size, i, none⟩ (.slice (some ⟨G', 0, none⟩) n n)) ((fun j => if j = i then G' else Gf j) j) n (fun k => cI L M k % ((pk p q r j : Nat) : Int))) ∧ Below w.heap.size w (w5.setCell ⟨w.heap.size, i, none⟩ (.slice (some ⟨G', 0, none⟩) n n))) := Lib.hid ⟨prow_set Gf n i G' hlt ▸ HRow.out.set i _, fun j hj => (by
        by_cases hji : j = i
        · subst hji
          simp only [if_pos]
          exact ⟨hGw, by simpa using hPO.1, fun k hk => by rw [World.cell?_setCell_far _ _ _ _ (by simp; omega)]; exact hPO.2 k hk⟩
        · simp only [if_neg hji]
          obtain ⟨h1, h2⟩ := Q.out.2.1 j (by omega)
          have h3 := h2.keep HY5.out
          exact ⟨h1, by simpa using h3.1, fun k hk => by rw [World.cell?_setCell_far _ _ _ _ (by simp; omega)]; exact h3.2 k hk⟩), below_setCell HB5.out (Nat.le_refl _) _ _⟩
      clear Q hPO hB5 HY5 hself
      go_wp2
      go_roundw
      case rel => exact ⟨i + 1, _, by go_num, by omega, Q5⟩
      case measure => simp [intOf]; omega
    · obtain rfl : i = 3 := by omega
      have hrl := Q.out.1.lt
      have hbs := Q.out.2.2.size
      go_wp2_with (at_make; refine wpList_make_full _ rfl _ _ 61 rfl w.heap.size 69 i3 (.agg (three 0)) 3 Tryz.underlying61 hi3 hz0 hz1 _ _ _ _ n rfl rfl ?l1 ?l2 ?b2 ?b3 hbs ?_)
      case l1 => omega
      case l2 => omega
      case b2 => rw [hz2]; omega
      case b3 => unfold maxLen; omega
      intro w3 hown hgrow
      have hR3 := R3.new hown
      have hBw : Below wr.heap.size wr w3 := (Below.refl _ _).grown hgrow (Nat.le_refl _) (fun k h => by cases h)
      obtain ⟨G, hG⟩ : ∃ G, G = wr.heap.size := ⟨_, rfl⟩
      rw [← hG] at hR3
      have hGw : w.heap.size < G := by omega
      have Q3 : Hid (RowAt w3 w.heap.size 178 (prow Gf n 3) ∧ (∀ j, j < 3 → Gf j < G ∧ PO w3 (Gf j) n (fun k => cI L M k % ((pk p q r j : Nat) : Int))) ∧ R3 w3 G n (fun i => if i < 0 then X i else 0) ∧ Below w.heap.size w w3) := Lib.hid ⟨Q.out.1.keep hBw, fun j hj => ⟨by rw [hG]; exact (Q.out.2.1 j hj).2.1, (Q.out.2.1 j hj).2.keep hBw⟩, hR3.congr (fun i _ => by rw [if_neg (by omega)]), Q.out.2.2.trans (hBw.mono hbs)⟩
      have HG := Lib.hid hG
      clear hown hgrow hR3 hBw Q hG hrl hbs
      go_wp2
      rw [← HG.out]
      have KP : Hid (∀ W W' k, (RowAt W w.heap.size 178 (prow Gf n 3) ∧ (∀ j, j < 3 → Gf j < G ∧ PO W (Gf j) n (fun k => cI L M k % ((pk p q r j : Nat) : Int))) ∧ R3 W G n (fun i => if i < k then X i else 0) ∧ Below w.heap.size w W) → Below W.heap.size W W' → (RowAt W' w.heap.size 178 (prow Gf n 3) ∧ (∀ j, j < 3 → Gf j < G ∧ PO W' (Gf j) n (fun k => cI L M k % ((pk p q r j : Nat) : Int))) ∧ R3 W' G n (fun i => if i < k then X i else 0) ∧ Below w.heap.size w W')) := Lib.hid (fun W W' k h hB => ⟨h.1.keep hB, fun j hj => ⟨(h.2.1 j hj).1, (h.2.1 j hj).2.keep hB⟩, h.2.2.1.keep hB, h.2.2.2.trans (hB.mono h.2.2.2.size)⟩)
      go_loopw [45] (fun I wr => ∃ k : Nat, I = .int .i64 k ∧ k ≤ n ∧ Hid (RowAt wr w.heap.size 178 (prow Gf n 3) ∧ (∀ j, j < 3 → Gf j < G ∧ PO wr (Gf j) n (fun k => cI L M k % ((pk p q r j : Nat) : Int))) ∧ R3 wr G n (fun i => if i < k then X i else 0) ∧ Below w.heap.size w wr)) (fun I _ => n - (intOf I).toNat)
      case atStart => exact ⟨0, rfl, by omega, Q3⟩
      case round =>
        clear Q3
        obtain ⟨k, rfl, hk, Q⟩ := hrel
        by_cases hlt : k < n
        · have f0 : (0 : Int) ≤ (k : Int) := by omega
          have f1 : (k : Int) < (n : Int) := by omega
          obtain ⟨x0, hx0⟩ : ∃ x : Nat, (x : Int) = cI L M k % ((pk p q r 0 : Nat) : Int) := ⟨_, Int.toNat_of_nonneg (HPk.out 0 (by omega) k)⟩
          obtain ⟨x1, hx1⟩ : ∃ x : Nat, (x : Int) = cI L M k % ((pk p q r 1 : Nat) : Int) := ⟨_, Int.toNat_of_nonneg (HPk.out 1 (by omega) k)⟩
          obtain ⟨x2, hx2⟩ : ∃ x : Nat, (x : Int) = cI L M k % ((pk p q r 2 : Nat) : Int) := ⟨_, Int.toNat_of_nonneg (HPk.out 2 (by omega) k)⟩
          have HJ := Lib.hid (HJn.out k x0 x1 x2 hx0 hx1 hx2)
          rw [← HXe.out k] at HJ
          have hbl : x0 < 18446744073709551616 ∧ x1 < 18446744073709551616 ∧ x2 < 18446744073709551616 := by
            have hp3 := hT.p3
            have hq3 := hT.q3
            have hr3 := hT.r3
            have hpm := hT.pm
            have hqm := hT.qm
            have hrm := hT.rm
            have a0 := Int.emod_lt_of_pos (cI L M k) (show (0 : Int) < (p : Int) by omega)
            have a1 := Int.emod_lt_of_pos (cI L M k) (show (0 : Int) < (q : Int) by omega)
            have a2 := Int.emod_lt_of_pos (cI L M k) (show (0 : Int) < (r : Int) by omega)
            have b0 : (x0 : Int) = cI L M k % (p : Int) := hx0
            have b1 : (x1 : Int) = cI L M k % (q : Int) := hx1
            have b2 : (x2 : Int) = cI L M k % (r : Int) := hx2
            omega
          rw [three_w3n hbl.1 hbl.2.1 hbl.2.2] at HJ
          have HSl : Hid (∀ W, (RowAt W w.heap.size 178 (prow Gf n 3) ∧ (∀ j, j < 3 → Gf j < G ∧ PO W (Gf j) n (fun k => cI L M k % ((pk p q r j : Nat) : Int))) ∧ R3 W G n (fun i => if i < k then X i else 0) ∧ Below w.heap.size w W) → W.cell? ⟨w.heap.size, 0, none⟩ = some (.slice (some ⟨Gf 0, 0, none⟩) n n) ∧ W.cell? ⟨w.heap.size, 1, none⟩ = some (.slice (some ⟨Gf 1, 0, none⟩) n n) ∧ W.cell? ⟨w.heap.size, 2, none⟩ = some (.slice (some ⟨Gf 2, 0, none⟩) n n) ∧ W.cell? ⟨Gf 0, k, none⟩ = some (.int .u64 (x0 : Int)) ∧ W.cell? ⟨Gf 1, k, none⟩ = some (.int .u64 (x1 : Int)) ∧ W.cell? ⟨Gf 2, k, none⟩ = some (.int .u64 (x2 : Int))) := Lib.hid (fun W h => ⟨h.1.cell (prow_get Gf n 3 0 (by omega)), h.1.cell (prow_get Gf n 3 1 (by omega)), h.1.cell (prow_get Gf n 3 2 (by omega)), by rw [hx0]; exact (h.2.1 0 (by omega)).2.2 k hlt, by rw [hx1]; exact (h.2.1 1 (by omega)).2.2 k hlt, by rw [hx2]; exact (h.2.1 2 (by omega)).2.2 k hlt⟩)
          have KS : Hid (∀ W, (RowAt W w.heap.size 178 (prow Gf n 3) ∧ (∀ j, j < 3 → Gf j < G ∧ PO W (Gf j) n (fun k => cI L M k % ((pk p q r j : Nat) : Int))) ∧ R3 W G n (fun i => if i < k then X i else 0) ∧ Below w.heap.size w W) → (RowAt (W.setCells G (k * 3) (three (X k)).toList) w.heap.size 178 (prow Gf n 3) ∧ (∀ j, j < 3 → Gf j < G ∧ PO (W.setCells G (k * 3) (three (X k)).toList) (Gf j) n (fun k => cI L M k % ((pk p q r j : Nat) : Int))) ∧ R3 (W.setCells G (k * 3) (three (X k)).toList) G n (fun i => if i < (k + 1) then X i else 0) ∧ Below w.heap.size w (W.setCells G (k * 3) (three (X k)).toList))) := Lib.hid (fun W h => ⟨h.1.setCellsOther (by omega) _ _ _, fun j hj => ⟨(h.2.1 j hj).1, by rw [size_setCells]; exact (h.2.1 j hj).2.1, fun i hi => by rw [cell_setCells_other (by have := (h.2.1 j hj).1; simp; omega)]; exact (h.2.1 j hj).2.2 i hi⟩, (h.2.2.1.set k hlt (X k)).congr (fun i _ => by
            by_cases hik : i = k
            · subst hik; rw [if_pos rfl, if_pos (by omega)]
            · rw [if_neg hik]
              by_cases h2 : i < k
              · rw [if_pos h2, if_pos (by omega)]
              · rw [if_neg h2, if_neg (by omega)]), below_setCells (by omega) _ _ _ h.2.2.2⟩)
          have KSr : Hid (∀ W, (RowAt W w.heap.size 178 (prow Gf n 3) ∧ (∀ j, j < 3 → Gf j < G ∧ PO W (Gf j) n (fun k => cI L M k % ((pk p q r j : Nat) : Int))) ∧ R3 W G n (fun i => if i < (k + 1) then X i else 0) ∧ Below w.heap.size w W) → (W.cell? ⟨w.heap.size, 0, none⟩ = some (.slice (some ⟨Gf 0, 0, none⟩) n n) ∧ W.cell? ⟨w.heap.size, 1, none⟩ = some (.slice (some ⟨Gf 1, 0, none⟩) n n) ∧ W.cell? ⟨w.heap.size, 2, none⟩ = some (.slice (some ⟨Gf 2, 0, none⟩) n n) ∧ W.cell? ⟨Gf 0, k, none⟩ = some (.int .u64 (x0 : Int)) ∧ W.cell? ⟨Gf 1, k, none⟩ = some (.int .u64 (x1 : Int)) ∧ W.cell? ⟨Gf 2, k, none⟩ = some (.int .u64 (x2 : Int)))) := Lib.hid (fun W h => ⟨h.1.cell (prow_get Gf n 3 0 (by omega)), h.1.cell (prow_get Gf n 3 1 (by omega)), h.1.cell (prow_get Gf n 3 2 (by omega)), by rw [hx0]; exact (h.2.1 0 (by omega)).2.2 k hlt, by rw [hx1]; exact (h.2.1 1 (by omega)).2.2 k hlt, by rw [hx2]; exact (h.2.1 2 (by omega)).2.2 k hlt⟩)
          have z0 : Hid (RowAt (wr.drewN 1) w.heap.size 178 (prow Gf n 3) ∧ (∀ j, j < 3 → Gf j < G ∧ PO (wr.drewN 1) (Gf j) n (fun k => cI L M k % ((pk p q r j : Nat) : Int))) ∧ R3 (wr.drewN 1) G n (fun i => if i < k then X i else 0) ∧ Below w.heap.size w (wr.drewN 1)) := Lib.hid (KP.out _ _ _ Q.out (below_drewN (Below.refl _ _) 1))
          have HY1 := HXe
          clear hx0 hx1 hx2 hbl Q
          go_wp2_with fail
          change (Code.region _ _ true).wp _ _ _ _
          refine wp_region_held_drew (S := fun wz => wz.cell? ⟨w.heap.size, 0, none⟩ = some (.slice (some ⟨Gf 0, 0, none⟩) n n) ∧ wz.cell? ⟨w.heap.size, 1, none⟩ = some (.slice (some ⟨Gf 1, 0, none⟩) n n) ∧ wz.cell? ⟨w.heap.size, 2, none⟩ = some (.slice (some ⟨Gf 2, 0, none⟩) n n) ∧ wz.cell? ⟨Gf 0, k, none⟩ = some (.int .u64 (x0 : Int)) ∧ wz.cell? ⟨Gf 1, k, none⟩ = some (.int .u64 (x1 : Int)) ∧ wz.cell? ⟨Gf 2, k, none⟩ = some (.int .u64 (x2 : Int))) (by kernel_rfl) ((HSl.out _ z0.out)) (fun hHeld => ?_)
          refine wpAnyH_take (i := 0) (v := ?_) rfl (by kernel_rfl) (by kernel_rfl) (by kernel_rfl) (fun _ _ _ h => h) (Or.inl ⟨by rfl, ?_⟩) (HSl.out _ z0.out) ?_
          rotate_left
          · intro w hSw; (try dsimp only at hSw); go_simp; try with_reducible rfl
          try simp only [Act.put, List.getElem_toArray, List.getElem_cons_zero, List.getElem_cons_succ, List.setIfInBounds_toArray, List.set_cons_zero, List.set_cons_succ]
          refine wpAnyH_take (i := 1) (v := ?_) rfl (by kernel_rfl) (by kernel_rfl) (by kernel_rfl) (fun _ _ _ h => h) (Or.inl ⟨by rfl, ?_⟩) (HSl.out _ z0.out) ?_
          rotate_left
          · intro w hSw; (try dsimp only at hSw); go_simp; try with_reducible rfl
          try simp only [Act.put, List.getElem_toArray, List.getElem_cons_zero, List.getElem_cons_succ, List.setIfInBounds_toArray, List.set_cons_zero, List.set_cons_succ]
          refine wpAnyH_take (i := 2) (v := ?_) rfl (by kernel_rfl) (by kernel_rfl) (by kernel_rfl) (fun _ _ _ h => h) (Or.inl ⟨by rfl, ?_⟩) (HSl.out _ z0.out) ?_
          rotate_left
          · intro w hSw; (try dsimp only at hSw); go_simp; try with_reducible rfl
          try simp only [Act.put, List.getElem_toArray, List.getElem_cons_zero, List.getElem_cons_succ, List.setIfInBounds_toArray, List.set_cons_zero, List.set_cons_succ]
          refine wpAnyH_take (i := 3) (v := ?_) rfl (by kernel_rfl) (by kernel_rfl) (by kernel_rfl) (fun _ _ _ h => h) (Or.inl ⟨by rfl, ?_⟩) (HSl.out _ z0.out) ?_
          rotate_left
          · intro w hSw; (try dsimp only at hSw); go_simp; try with_reducible rfl
          try simp only [Act.put, List.getElem_toArray, List.getElem_cons_zero, List.getElem_cons_succ, List.setIfInBounds_toArray, List.set_cons_zero, List.set_cons_succ]
          refine wpAnyH_take (i := 4) (v := ?_) rfl (by kernel_rfl) (by kernel_rfl) (by kernel_rfl) (fun _ _ _ h => h) (Or.inl ⟨by rfl, ?_⟩) (HSl.out _ z0.out) ?_
          rotate_left
          · intro w hSw; (try dsimp only at hSw); go_simp; try with_reducible rfl
          try simp only [Act.put, List.getElem_toArray, List.getElem_cons_zero, List.getElem_cons_succ, List.setIfInBounds_toArray, List.set_cons_zero, List.set_cons_succ]
          refine wpAnyH_take (i := 5) (v := ?_) rfl (by kernel_rfl) (by kernel_rfl) (by kernel_rfl) (fun _ _ _ h => h) (Or.inl ⟨by rfl, ?_⟩) (HSl.out _ z0.out) ?_
          rotate_left
          · intro w hSw; (try dsimp only at hSw); go_simp; try with_reducible rfl
          try simp only [Act.put, List.getElem_toArray, List.getElem_cons_zero, List.getElem_cons_succ, List.setIfInBounds_toArray, List.set_cons_zero, List.set_cons_succ]
          refine wpAnyH_take (i := 6) (v := ?_) rfl (by kernel_rfl) (by kernel_rfl) (by kernel_rfl) (fun _ _ _ h => h) (Or.inl ⟨by rfl, ?_⟩) (HSl.out _ z0.out) ?_
          rotate_left
          · intro w hSw; (try dsimp only at hSw); go_simp; try with_reducible rfl
          try simp only [Act.put, List.getElem_toArray, List.getElem_cons_zero, List.getElem_cons_succ, List.setIfInBounds_toArray, List.set_cons_zero, List.set_cons_succ]
          refine wpAnyH_take (i := 7) (v := ?_) rfl (by kernel_rfl) (by kernel_rfl) (by kernel_rfl) (fun _ _ _ h => h) (Or.inl ⟨by rfl, ?_⟩) (HSl.out _ z0.out) ?_
          rotate_left
          · intro w hSw; (try dsimp only at hSw); go_simp; try with_reducible rfl
          try simp only [Act.put, List.getElem_toArray, List.getElem_cons_zero, List.getElem_cons_succ, List.setIfInBounds_toArray, List.set_cons_zero, List.set_cons_succ]
          refine wpAnyH_take (i := 8) (v := ?_) rfl (by kernel_rfl) (by kernel_rfl) (by kernel_rfl) (fun _ _ _ h => h) (Or.inl ⟨by rfl, ?_⟩) (HSl.out _ z0.out) ?_
          rotate_left
          · intro w hSw; (try dsimp only at hSw); go_simp; try with_reducible rfl
          try simp only [Act.put, List.getElem_toArray, List.getElem_cons_zero, List.getElem_cons_succ, List.setIfInBounds_toArray, List.set_cons_zero, List.set_cons_succ]
          refine wpAnyH_take (i := 9) (v := ?_) rfl (by kernel_rfl) (by kernel_rfl) (by kernel_rfl) (fun _ _ _ h => h) (Or.inl ⟨by rfl, ?_⟩) (HSl.out _ z0.out) ?_
          rotate_left
          · intro w hSw; (try dsimp only at hSw); go_simp; try with_reducible rfl
          try simp only [Act.put, List.getElem_toArray, List.getElem_cons_zero, List.getElem_cons_succ, List.setIfInBounds_toArray, List.set_cons_zero, List.set_cons_succ]
          refine wpAnyH_take (i := 10) (v := ?_) rfl (by kernel_rfl) (by kernel_rfl) (by kernel_rfl) (fun _ _ _ h => h) (Or.inl ⟨by rfl, ?_⟩) (HSl.out _ z0.out) ?_
          rotate_left
          · intro w hSw; (try dsimp only at hSw); go_simp; try with_reducible rfl
          try simp only [Act.put, List.getElem_toArray, List.getElem_cons_zero, List.getElem_cons_succ, List.setIfInBounds_toArray, List.set_cons_zero, List.set_cons_succ]
          refine wpAnyH_take (i := 11) (v := ?_) rfl (by kernel_rfl) (by kernel_rfl) (by kernel_rfl) (fun _ _ _ h => h) (Or.inl ⟨by rfl, ?_⟩) (HSl.out _ z0.out) ?_
          rotate_left
          · intro w hSw; (try dsimp only at hSw); go_simp; try with_reducible rfl
          try simp only [Act.put, List.getElem_toArray, List.getElem_cons_zero, List.getElem_cons_succ, List.setIfInBounds_toArray, List.set_cons_zero, List.set_cons_succ]
          refine wpAnyH_take (i := 12) (v := ?_) rfl (by kernel_rfl) (by kernel_rfl) (by kernel_rfl) (fun _ _ _ h => h) (Or.inl ⟨by rfl, ?_⟩) (HSl.out _ z0.out) ?_
          rotate_left
          · intro w hSw; (try dsimp only at hSw); go_simp; try with_reducible rfl
          try simp only [Act.put, List.getElem_toArray, List.getElem_cons_zero, List.getElem_cons_succ, List.setIfInBounds_toArray, List.set_cons_zero, List.set_cons_succ]
          refine wpAnyH_take (i := 13) (v := ?_) rfl (by kernel_rfl) (by kernel_rfl) (by kernel_rfl) (fun _ _ _ h => h) (Or.inl ⟨by rfl, ?_⟩) (HSl.out _ z0.out) ?_
          rotate_left
          · intro w hSw; (try dsimp only at hSw); go_simp; try with_reducible rfl
          try simp only [Act.put, List.getElem_toArray, List.getElem_cons_zero, List.getElem_cons_succ, List.setIfInBounds_toArray, List.set_cons_zero, List.set_cons_succ]
          refine wpAnyH_take (i := 14) (v := ?_) rfl (by kernel_rfl) (by kernel_rfl) (by kernel_rfl) (fun _ _ _ h => h) (Or.inl ⟨by rfl, ?_⟩) (HSl.out _ z0.out) ?_
          rotate_left
          · intro w hSw; (try dsimp only at hSw); go_simp; try with_reducible rfl
          try simp only [Act.put, List.getElem_toArray, List.getElem_cons_zero, List.getElem_cons_succ, List.setIfInBounds_toArray, List.set_cons_zero, List.set_cons_succ]
          refine wpAnyH_take (i := 15) (v := ?_) rfl (by kernel_rfl) (by kernel_rfl) (by kernel_rfl) (fun _ _ _ h => h) (Or.inl ⟨by rfl, ?_⟩) (HSl.out _ z0.out) ?_
          rotate_left
          · intro w hSw; (try dsimp only at hSw); go_simp; try with_reducible rfl
          try simp only [Act.put, List.getElem_toArray, List.getElem_cons_zero, List.getElem_cons_succ, List.setIfInBounds_toArray, List.set_cons_zero, List.set_cons_succ]
          refine wpAnyH_take (i := 16) (v := ?_) rfl (by kernel_rfl) (by kernel_rfl) (by kernel_rfl) (fun _ _ _ h => h) (Or.inl ⟨by rfl, ?_⟩) (HSl.out _ z0.out) ?_
          rotate_left
          · intro w hSw; (try dsimp only at hSw); go_simp; try with_reducible rfl
          try simp only [Act.put, List.getElem_toArray, List.getElem_cons_zero, List.getElem_cons_succ, List.setIfInBounds_toArray, List.set_cons_zero, List.set_cons_succ]
          refine wpAnyH_take (i := 17) (v := ?_) rfl (by kernel_rfl) (by kernel_rfl) (by kernel_rfl) (fun _ _ _ h => h) (Or.inl ⟨by rfl, ?_⟩) (HSl.out _ z0.out) ?_
          rotate_left
          · intro w hSw; (try dsimp only at hSw); go_simp; try with_reducible rfl
          try simp only [Act.put, List.getElem_toArray, List.getElem_cons_zero, List.getElem_cons_succ, List.setIfInBounds_toArray, List.set_cons_zero, List.set_cons_succ]
          refine wpAnyH_take (i := 18) (v := ?_) rfl (by kernel_rfl) (by kernel_rfl) (by kernel_rfl) (fun _ _ _ h => h) (Or.inl ⟨by rfl, ?_⟩) (HSl.out _ z0.out) ?_
          rotate_left
          · intro w hSw; (try dsimp only at hSw); go_simp; try with_reducible rfl
          try simp only [Act.put, List.getElem_toArray, List.getElem_cons_zero, List.getElem_cons_succ, List.setIfInBounds_toArray, List.set_cons_zero, List.set_cons_succ]
          refine wpAnyH_ready (rs := [19]) (by kernel_rfl) (by simp) ?_
          refine AllReadyH.cons rfl (fun K hK => ?_) AllReadyH.nil
          try simp only [List.getElem_toArray, List.getElem_cons_zero, List.getElem_cons_succ]
          rw [if_pos (by rfl)]
          go_wp2_with (go_at_call 125; refine ((HJ.out _ ((HT.out.below z0.out.2.2.2).mono z0.out.2.2.2.size))).mono ?_; rintro e y19 ⟨rfl, hY19⟩)
          have z19 := Lib.hid (KP.out _ _ _ z0.out hY19)
          clear hY19
          refine hK.out _ _ ((HSl.out _ z19.out)) (fun _ => ?_)
          clear hK K
          try simp only [Act.put, List.getElem_toArray, List.getElem_cons_zero, List.getElem_cons_succ, List.setIfInBounds_toArray, List.set_cons_zero, List.set_cons_succ]
          refine wpAnyH_take (i := 20) (v := ?_) rfl (by kernel_rfl) (by kernel_rfl) (by kernel_rfl) (fun _ _ _ h => h) (Or.inl ⟨by rfl, ?_⟩) (HSl.out _ z19.out) ?_
          rotate_left
          · intro w hSw; (try dsimp only at hSw); go_simp; try with_reducible rfl
          try simp only [Act.put, List.getElem_toArray, List.getElem_cons_zero, List.getElem_cons_succ, List.setIfInBounds_toArray, List.set_cons_zero, List.set_cons_succ]
          refine wpAnyH_ready (rs := [21]) (by kernel_rfl) (by simp) ?_
          refine AllReadyH.cons rfl (fun K hK => ?_) AllReadyH.nil
          try simp only [List.getElem_toArray, List.getElem_cons_zero, List.getElem_cons_succ]
          rw [if_pos (by rfl)]
          refine wp_store_mid _ _ _ rfl _ _ (three (X k)) rfl rfl (z19.out.2.2.1.there k hlt) (by exact size_three) (three_one _) ?_
          have z21 := Lib.hid (KS.out _ z19.out)
          refine hK.out _ _ ((KSr.out _ z21.out)) (fun _ => ?_)
          clear hK K
          try simp only [Act.put, List.getElem_toArray, List.getElem_cons_zero, List.getElem_cons_succ, List.setIfInBounds_toArray, List.set_cons_zero, List.set_cons_succ]
          refine wpAnyH_done (by kernel_rfl) ?_ _
          go_wp2
          go_roundw
          case rel => exact ⟨k + 1, by go_num, by omega, z21⟩
          case measure => simp [intOf]; omega
        · obtain rfl : k = n := by omega
          have hr := Q.out.2.2.1.congr (fun i hi => if_pos hi)
          have hbe := Q.out.2.2.2
          have HE := Lib.hid (And.intro hr hbe)
          clear hr hbe Q KP
          go_wp2
          go_ret
          exact ⟨G, rfl, by omega, HE.out.1, HE.out.2⟩
end Go.Proofs.YtemoginoanhjlaaGreat
end

section
/- exact.Signed. -/
set_option linter.unusedVariables false
set_option linter.unusedSimpArgs false
namespace Go.Proofs.YtemoginoanhjlaaGreat
open Go.RowKit
open Alg
theorem sgn_is {N : Nat} {L M : List Int} (h : fitsB N (mnI L.length M.length) (mostL (sizesL L)).toNat (mostL (sizesL M)).toNat true = true) (k : Nat) : 2 * (cI L M k).natAbs < N := by
  unfold fitsB at h
  rw [Bool.and_eq_true, decide_eq_true_eq, decide_eq_true_eq] at h
  have hb := cI_abs L M k
  have := h.2
  simp only [if_true] at this
  omega
set_option maxHeartbeats 2000000 in
set_option maxRecDepth 100000 in
theorem xsgn_nil (A B : Option Addr) (cA cB : Nat) (L M : List Int) (w : World) (hl : L.length ≤ 4294967296) (hm : M.length ≤ 4294967296) (hI : I64s L) (hI' : I64s M) (hA : RdI w w.heap.size .i64 A L) (hB : RdI w w.heap.size .i64 B M) :
    Calls Tryz.prog 27 #[.pointer none, .slice A L.length cA, .slice B M.length cB] w fun e w' => e = .returned (.tuple #[.slice none 0 0, .int .i64 2]) ∧ Below w.heap.size w w' := by
  have HS1 := Lib.hid (xsizes_any A cA L w hl hI hA)
  have HS2 := Lib.hid (fun W hW => xsizes_any B cB M W hm hI' ((hB.below hW).mono (Below.size hW)))
  have HM1 := Lib.hid (fun W A c hR => xmost_any A c (sizesL L) W (by rw [sizesL_length]; omega) hR)
  have HM2 := Lib.hid (fun W A c hR => xmost_any A c (sizesL M) W (by rw [sizesL_length]; omega) hR)
  simp only [sizesL_length] at HM1 HM2
  have HC := Lib.hid (fun (a b : Int) W => xcheck_nil L.length M.length a b true W)
  clear hA hB
  go_enter Tryz.func27, Tryz.ntmps27
  go_wp2_with fail
  refine HS1.out.mono ?_
  rintro e w1 ⟨V1, rfl, hO1, hB1⟩
  obtain ⟨A1, c1, rfl, hR1⟩ := hO1.rd
  have HR1 := Lib.hid hR1
  clear hO1 hR1
  go_wp2_with fail
  refine (HM1.out _ _ _ HR1.out).mono ?_
  rintro e w1 ⟨rfl, rfl⟩
  go_wp2_with fail
  refine (HS2.out _ hB1).mono ?_
  rintro e w2 ⟨V2, rfl, hO2, hB2⟩
  obtain ⟨A2, c2, rfl, hR2⟩ := hO2.rd
  have HR2 := Lib.hid hR2
  have HB2 := Lib.hid (hB1.trans (hB2.mono hB1.size))
  clear hO2 hR2 hB2 hB1
  go_wp2_with fail
  refine (HM2.out _ _ _ HR2.out).mono ?_
  rintro e w2 ⟨rfl, rfl⟩
  go_wp2_with fail
  refine (HC.out _ _ _).mono ?_
  rintro e w1 ⟨rfl, rfl⟩
  go_wp2
  go_ret2
  exact ⟨rfl, HB2.out⟩
set_option maxHeartbeats 4000000 in
set_option maxRecDepth 100000 in
theorem xsgn_yes {w : World} {v : Value} {p q r : Nat} (h : TrioP w w.heap.size v p q r) (hT : Tri p q r) (A B : Option Addr) (cA cB : Nat) (L M : List Int) (hl : L.length ≤ 4294967296) (hm : M.length ≤ 4294967296) (hU : I64s L) (hU' : I64s M) (hA : RdI w w.heap.size .i64 A L) (hB : RdI w w.heap.size .i64 B M) :
    Calls Tryz.prog 27 #[v, .slice A L.length cA, .slice B M.length cB] w fun e w' => XRes w w' e (chkX p q r L.length M.length (mostL (sizesL L)).toNat (mostL (sizesL M)).toNat true) (L.length + M.length - 1) (fun k => w192 (cI L M k)) := by
  have HS1 := Lib.hid (xsizes_any A cA L w hl hU hA)
  have HS2 := Lib.hid (fun W hW => xsizes_any B cB M W hm hU' ((hB.below hW).mono (Below.size hW)))
  have HM1 := Lib.hid (fun W A c hR => xmost_any A c (sizesL L) W (by rw [sizesL_length]; omega) hR)
  have HM2 := Lib.hid (fun W A c hR => xmost_any A c (sizesL M) W (by rw [sizesL_length]; omega) hR)
  simp only [sizesL_length] at HM1 HM2
  obtain ⟨ma, ea, la⟩ := mostL_nat (sizesL_u64 hU)
  obtain ⟨mb, eb, lb⟩ := mostL_nat (sizesL_u64 hU')
  have hN := hT.lt'.2
  have HC := Lib.hid (fun W (hW : Below w.heap.size w W) => xcheck_yes ((h.below hW).mono hW.size) hN L.length M.length (by omega) (by omega) ma mb la lb true)
  rw [ea] at HM1
  rw [eb] at HM2
  obtain ⟨c, hc⟩ : ∃ c, c = chkX p q r L.length M.length ma mb true := ⟨_, rfl⟩
  rw [ea, eb, Int.toNat_natCast, Int.toNat_natCast, ← hc]
  rw [← hc] at HC
  obtain ⟨gv, hv⟩ : ∃ gv, v = .pointer (some ⟨gv, 0, none⟩) := by
    obtain ⟨G, _, _, _, _, _, _, _, _, e, _⟩ := h
    exact ⟨G, e⟩
  have HT := Lib.hid h
  by_cases h0 : c = 0
  · have hz := chkX_zero (hc.symm.trans h0)
    obtain ⟨z1, z2, z3, z4, z5⟩ := hz
    have HJ : Hid (∀ W, Below w.heap.size w W → Calls Tryz.prog 63 #[v, .slice A L.length cA, .slice B M.length cB, (.func (.func 64) #[] #[])] W fun e w' => ∃ G, e = .returned (.slice (some ⟨G, 0, none⟩) (L.length + M.length - 1 : Nat) (L.length + M.length - 1 : Nat)) ∧ W.heap.size ≤ G ∧
      R3 w' G (L.length + M.length - 1) (fun k => (cI L M k % ((p * q * r : Nat) : Int)).toNat) ∧ Below W.heap.size W w') := Lib.hid (fun W hW => xjoin_int ((h.below hW).mono hW.size) hT A B cA cB L M hU hU' ((hA.below hW).mono hW.size) ((hB.below hW).mono hW.size) (by omega) (by omega) z3 z4)
    have HCe : Hid (∀ k W, Below w.heap.size w W → Calls Tryz.prog 65 #[v, .agg (three (cI L M k % ((p * q * r : Nat) : Int)).toNat)] W fun e w' => e = .returned (.agg (three (w192 (cI L M k)))) ∧ Below W.heap.size W w') := Lib.hid (fun k W hW => by
      have hlt : (cI L M k % ((p * q * r : Nat) : Int)).toNat < p * q * r := by
        have := Int.emod_lt_of_pos (cI L M k) (show (0 : Int) < ((p * q * r : Nat) : Int) by have := hT.lt'.1; omega)
        have := Int.emod_nonneg (cI L M k) (show ((p * q * r : Nat) : Int) ≠ 0 by have := hT.lt'.1; omega)
        omega
      have hce := tcentre_yes ((h.below hW).mono hW.size) (cI L M k % ((p * q * r : Nat) : Int)).toNat (by omega) hN
      rw [centre_is hN (sgn_is (by rw [ea, eb, Int.toNat_natCast, Int.toNat_natCast]; exact z5) k)] at hce
      exact hce)
    obtain ⟨X, hX⟩ : ∃ X : Nat → Nat, X = fun k => (cI L M k % ((p * q * r : Nat) : Int)).toNat := ⟨_, rfl⟩
    obtain ⟨Z, hZ⟩ : ∃ Z : Nat → Nat, Z = fun k => w192 (cI L M k) := ⟨_, rfl⟩
    have HCf : Hid (∀ k W, Below w.heap.size w W → Calls Tryz.prog 65 #[v, .agg (three (X k))] W fun e w' => e = .returned (.agg (three (Z k))) ∧ Below W.heap.size W w') := Lib.hid (by rw [hX, hZ]; exact HCe.out)
    rw [← hX] at HJ
    rw [← hZ]
    have hn0 : L.length + M.length - 1 ≤ 1024 := by omega
    obtain ⟨n, hn⟩ : ∃ n, n = L.length + M.length - 1 := ⟨_, rfl⟩
    rw [← hn] at HJ hn0 ⊢
    subst h0
    subst hv
    clear hc ea eb la lb hN h hT hU hU' hA hB z1 z2 z4 z5 z3 HT HCe hX hZ hn
    have hz := (zero_of_info info_three).1
    go_enter Tryz.func27, Tryz.ntmps27
    go_wp2_with fail
    refine HS1.out.mono ?_
    rintro e w1 ⟨V1, rfl, hO1, hB1⟩
    obtain ⟨A1, c1, rfl, hR1⟩ := hO1.rd
    have HR1 := Lib.hid hR1
    clear hO1 hR1
    go_wp2_with fail
    refine (HM1.out _ _ _ HR1.out).mono ?_
    rintro e w1 ⟨rfl, rfl⟩
    go_wp2_with fail
    refine (HS2.out _ hB1).mono ?_
    rintro e w2 ⟨V2, rfl, hO2, hB2⟩
    obtain ⟨A2, c2, rfl, hR2⟩ := hO2.rd
    have HR2 := Lib.hid hR2
    have HB2 := Lib.hid (hB1.trans (hB2.mono hB1.size))
    clear hO2 hR2 hB2 hB1
    go_wp2_with fail
    refine (HM2.out _ _ _ HR2.out).mono ?_
    rintro e w2 ⟨rfl, rfl⟩
    go_wp2_with fail
    refine (HC.out _ HB2.out).mono ?_
    rintro e w3 ⟨rfl, hB3⟩
    have HB3 := Lib.hid (HB2.out.trans (hB3.mono HB2.out.size))
    clear hB3
    go_wp2_with fail
    refine (HJ.out _ HB3.out).mono ?_
    rintro e w4 ⟨G, rfl, hG, hR, hB4⟩
    have hGw : w.heap.size ≤ G := by have := HB3.out.size; omega
    have Q0 : Hid (R3 w4 G n (fun i => if i < 0 then Z i else X i) ∧ Below w.heap.size w w4) := Lib.hid ⟨hR.congr (fun i _ => by rw [if_neg (by omega)]), HB3.out.trans (hB4.mono HB3.out.size)⟩
    clear hR hB4 hG
    go_wp2
    go_loopw [33] (fun I wr => ∃ k : Nat, I = .int .i64 k ∧ k ≤ n ∧ Hid (R3 wr G n (fun i => if i < k then Z i else X i) ∧ Below w.heap.size w wr)) (fun I _ => n - (intOf I).toNat)
    case atStart => exact ⟨0, rfl, by omega, Q0⟩
    case round =>
      clear Q0
      obtain ⟨k, rfl, hk, Q⟩ := hrel
      by_cases hlt : k < n
      · have f0 : (0 : Int) ≤ (k : Int) := by omega
        have f1 : (k : Int) < (n : Int) := by omega
        have hra : wr.rangeAt G (k * 3) (tl (X k)) := by
          have h1 := Q.out.1.range k hlt
          rw [if_neg (by omega)] at h1
          exact h1
        have HRa := Lib.hid hra
        have H5 := Lib.hid (RowAt.new wr 69 (three 0))
        have hGl : G < wr.heap.size := Q.out.1.lt
        have Q5 : Hid (RowAt ((wr.alloc (.cells (three 0) 69)).setRow wr.heap.size (three (X k))) wr.heap.size 69 (three (X k)) ∧ R3 ((wr.alloc (.cells (three 0) 69)).setRow wr.heap.size (three (X k))) G n (fun i => if i < k then Z i else X i) ∧ Below w.heap.size w ((wr.alloc (.cells (three 0) 69)).setRow wr.heap.size (three (X k)))) :=
          Lib.hid ⟨H5.out.setRow _, (Q.out.1.alloc _).setRowOther _ _ (by omega), below_setRow (Q.out.2.alloc Q.out.2.size _) Q.out.2.size _⟩
        clear hra Q
        go_wp2_with (first | (refine wpList_load_mid rfl _ _ rfl _ _ rfl _ _ (HRa.out) Tryz.underlying69 rfl (by exact size_three) ?_) | (refine wpList_store_row rfl _ _ _ rfl _ _ rfl rfl _ _ (H5.out) size_three rfl (three_one _) ?_) | (refine wpList_load_row rfl _ _ rfl _ rfl _ _ _ _ (Q5.out.1) Tryz.underlying69 rfl size_three ?_))
        rw [tl_list]
        generalize ((wr.alloc (.cells (three 0) 69)).setRow wr.heap.size (three (X k))) = w5 at *
        refine (HCf.out k _ Q5.out.2.2).mono ?_
        rintro e w6 ⟨rfl, hB6⟩
        have HR6 := Lib.hid (Q5.out.2.1.keep hB6)
        have HB6 := Lib.hid (Q5.out.2.2.trans (hB6.mono Q5.out.2.2.size))
        have Q7 : Hid (R3 (w6.setCells G (k * 3) (three (Z k)).toList) G n (fun i => if i < k + 1 then Z i else X i) ∧ Below w.heap.size w (w6.setCells G (k * 3) (three (Z k)).toList)) := Lib.hid ⟨(HR6.out.set k hlt (Z k)).congr (fun i _ => by
            by_cases hik : i = k
            · subst hik; rw [if_pos rfl, if_pos (by omega)]
            · rw [if_neg hik]
              by_cases h2 : i < k
              · rw [if_pos h2, if_pos (by omega)]
              · rw [if_neg h2, if_neg (by omega)]), below_setCells (by omega) _ _ _ HB6.out⟩
        clear hB6 Q5
        go_wp2_with (refine wpList_store_mid rfl _ _ _ rfl _ _ (three (Z k)) rfl rfl (HR6.out.there k hlt) (by exact size_three) (three_one _) ?_)
        go_roundw
        case rel => exact ⟨k + 1, by go_num, by omega, Q7⟩
        case measure => simp [intOf]; omega
      · obtain rfl : k = n := by omega
        have hr := Q.out.1.congr (Y := Z) (fun i hi => if_pos hi)
        have HE := Lib.hid (And.intro hr Q.out.2)
        clear hr Q
        go_wp2
        go_ret2
        exact ⟨.inr ⟨rfl, G, rfl, hGw, HE.out.1⟩, HE.out.2⟩
  · have t : (c != 0) = true := by simpa using h0
    subst hv
    clear hc ea eb la lb hN h hT hU hU' hA hB
    go_enter Tryz.func27, Tryz.ntmps27
    go_wp2_with fail
    refine HS1.out.mono ?_
    rintro e w1 ⟨V1, rfl, hO1, hB1⟩
    obtain ⟨A1, c1, rfl, hR1⟩ := hO1.rd
    have HR1 := Lib.hid hR1
    clear hO1 hR1
    go_wp2_with fail
    refine (HM1.out _ _ _ HR1.out).mono ?_
    rintro e w1 ⟨rfl, rfl⟩
    go_wp2_with fail
    refine (HS2.out _ hB1).mono ?_
    rintro e w2 ⟨V2, rfl, hO2, hB2⟩
    obtain ⟨A2, c2, rfl, hR2⟩ := hO2.rd
    have HR2 := Lib.hid hR2
    have HB2 := Lib.hid (hB1.trans (hB2.mono hB1.size))
    clear hO2 hR2 hB2 hB1
    go_wp2_with fail
    refine (HM2.out _ _ _ HR2.out).mono ?_
    rintro e w2 ⟨rfl, rfl⟩
    go_wp2_with fail
    refine (HC.out _ HB2.out).mono ?_
    rintro e w3 ⟨rfl, hB3⟩
    have HB3 := Lib.hid (HB2.out.trans (hB3.mono HB2.out.size))
    clear hB3
    go_wp2
    go_ret2
    exact ⟨.inl ⟨h0, rfl⟩, HB3.out⟩
end Go.Proofs.YtemoginoanhjlaaGreat
end
